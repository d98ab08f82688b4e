/- Plain laws: sums of rows of bits: the span, its size, the rank. No condition; nothing of the program stands here. -/
namespace Go.Proofs.Ytlgiponfcmeiiaa
/-- How many numbers below N pass. -/
def cnt (p : Nat → Bool) (N : Nat) : Nat := (List.range N).countP p
theorem cnt_zero (p : Nat → Bool) : cnt p 0 = 0 := rfl
theorem cnt_succ (p : Nat → Bool) (N : Nat) : cnt p (N + 1) = cnt p N + if p N = true then 1 else 0 := by
  unfold cnt
  rw [List.range_succ, List.countP_append, List.countP_cons, List.countP_nil, Nat.zero_add]
theorem cnt_congr {p q : Nat → Bool} {N : Nat} (h : ∀ x, x < N → p x = q x) : cnt p N = cnt q N := by
  induction N with
  | zero => rfl
  | succ N ih => rw [cnt_succ, cnt_succ, ih fun x hx => h x (by omega), h N (by omega)]
theorem cnt_remove {p : Nat → Bool} {N y : Nat} (hy : y < N) (hp : p y = true) : cnt (fun x => p x && !decide (x = y)) N + 1 = cnt p N := by
  induction N with
  | zero => omega
  | succ N ih =>
    rw [cnt_succ, cnt_succ]
    by_cases e : y = N
    · subst e
      rw [if_pos hp, if_neg (by simp), Nat.add_zero]
      rw [cnt_congr (q := p)]
      intro x hx
      rw [decide_eq_false (by omega), Bool.not_false, Bool.and_true]
    · have := ih (by omega)
      have h2 : (p N && !decide (N = y)) = p N := by rw [decide_eq_false (fun h => e h.symm), Bool.not_false, Bool.and_true]
      rw [h2]; omega
/-- A one-to-one way into another set. -/
theorem cnt_inj {p : Nat → Bool} {N : Nat} (f : Nat → Nat) : ∀ {M : Nat} {q : Nat → Bool}, (∀ x, x < N → p x = true → f x < M ∧ q (f x) = true) → (∀ x y, x < N → y < N → p x = true → p y = true → f x = f y → x = y) → cnt p N ≤ cnt q M := by
  induction N with
  | zero => intro M q _ _; rw [cnt_zero]; exact Nat.zero_le _
  | succ N ih =>
    intro M q h1 h2
    rw [cnt_succ]
    by_cases hp : p N = true
    · obtain ⟨a, b⟩ := h1 N (by omega) hp
      have := ih (M := M) (q := fun x => q x && !decide (x = f N)) (fun x hx hpx => by
        obtain ⟨c, d⟩ := h1 x (by omega) hpx
        refine ⟨c, ?_⟩
        have hne : f x ≠ f N := fun e => by
          have := h2 x N (by omega) (by omega) hpx hp e
          omega
        show (q (f x) && !decide (f x = f N)) = true
        rw [d, decide_eq_false hne]; rfl) (fun x y hx hy => h2 x y (by omega) (by omega))
      have hr := cnt_remove a b
      rw [if_pos hp]; omega
    · rw [if_neg hp, Nat.add_zero]
      exact ih (fun x hx => h1 x (by omega)) (fun x y hx hy => h2 x y (by omega) (by omega))
theorem cnt_or {p q : Nat → Bool} {N : Nat} (h : ∀ x, x < N → ¬ (p x = true ∧ q x = true)) : cnt (fun x => p x || q x) N = cnt p N + cnt q N := by
  induction N with
  | zero => rfl
  | succ N ih =>
    rw [cnt_succ, cnt_succ, cnt_succ, ih fun x hx => h x (by omega)]
    have := h N (by omega)
    cases hp : p N <;> cases hq : q N <;> simp_all <;> omega
theorem cnt_all {p : Nat → Bool} {N : Nat} (h : ∀ x, x < N → p x = true) : cnt p N = N := by
  induction N with
  | zero => rfl
  | succ N ih => rw [cnt_succ, ih fun x hx => h x (by omega), if_pos (h N (by omega))]
theorem cnt_none {p : Nat → Bool} {N : Nat} (h : ∀ x, x < N → p x = false) : cnt p N = 0 := by
  induction N with
  | zero => rfl
  | succ N ih => rw [cnt_succ, ih fun x hx => h x (by omega), if_neg (by rw [h N (by omega)]; decide)]
theorem cnt_only {p : Nat → Bool} {N a : Nat} (ha : a < N) (h : ∀ x, x < N → p x = decide (x = a)) : cnt p N = 1 := by
  have := cnt_remove (p := p) ha (by rw [h a ha, decide_eq_true rfl])
  rw [cnt_none (p := fun x => p x && !decide (x = a))] at this
  · omega
  · intro x hx
    rw [h x hx]
    by_cases e : x = a
    · rw [decide_eq_true e]; rfl
    · rw [decide_eq_false e]; rfl
/-! ### The span -/
/-- Is x a sum of some of the rows? -/
def spanB : List Nat → Nat → Bool
  | [], x => x == 0
  | v :: vs, x => spanB vs x || spanB vs (x ^^^ v)
theorem xor_back (x v : Nat) : (x ^^^ v) ^^^ v = x := by rw [Nat.xor_assoc, Nat.xor_self, Nat.xor_zero]
theorem span_zero (vs : List Nat) : spanB vs 0 = true := by
  induction vs with
  | nil => rfl
  | cons v vs ih => rw [spanB, ih]; rfl
theorem span_nil {x : Nat} : spanB [] x = true ↔ x = 0 := by simp [spanB]
theorem span_cons {v x : Nat} {vs : List Nat} : spanB (v :: vs) x = true ↔ spanB vs x = true ∨ spanB vs (x ^^^ v) = true := by rw [spanB, Bool.or_eq_true]
theorem span_xor {vs : List Nat} : ∀ {x y : Nat}, spanB vs x = true → spanB vs y = true → spanB vs (x ^^^ y) = true := by
  induction vs with
  | nil => intro x y hx hy; rw [span_nil] at *; rw [hx, hy]; rfl
  | cons v vs ih =>
    intro x y hx hy
    rw [span_cons] at *
    rcases hx with hx | hx <;> rcases hy with hy | hy
    · exact .inl (ih hx hy)
    · right
      have := ih hx hy
      rwa [← Nat.xor_assoc] at this
    · right
      have := ih hx hy
      rwa [Nat.xor_assoc, Nat.xor_comm v y, ← Nat.xor_assoc] at this
    · left
      have := ih hx hy
      rwa [Nat.xor_assoc, Nat.xor_comm y v, ← Nat.xor_assoc v v y, Nat.xor_self, Nat.zero_xor] at this
theorem span_head (v : Nat) (vs : List Nat) : spanB (v :: vs) v = true := by rw [span_cons, Nat.xor_self]; exact .inr (span_zero vs)
theorem span_tail {v x : Nat} {vs : List Nat} (h : spanB vs x = true) : spanB (v :: vs) x = true := span_cons.2 (.inl h)
theorem span_mem {v : Nat} {vs : List Nat} (h : v ∈ vs) : spanB vs v = true := by
  induction vs with
  | nil => cases h
  | cons w vs ih =>
    rcases List.mem_cons.1 h with e | e
    · subst e; exact span_head _ _
    · exact span_tail (ih e)
/-- The least set that holds the rows and all sums. -/
theorem span_ind {vs : List Nat} {Q : Nat → Prop} (h0 : Q 0) (hx : ∀ x y, Q x → Q y → Q (x ^^^ y)) (hv : ∀ v ∈ vs, Q v) : ∀ {x : Nat}, spanB vs x = true → Q x := by
  induction vs with
  | nil => intro x h; rw [span_nil] at h; rw [h]; exact h0
  | cons v vs ih =>
    intro x h
    have ih := fun {x} => ih (fun w hw => hv w (List.mem_cons_of_mem _ hw)) (x := x)
    rcases span_cons.1 h with h | h
    · exact ih h
    · have := hx _ _ (ih h) (hv v List.mem_cons_self)
      rwa [xor_back] at this
theorem span_le {vs ws : List Nat} (h : ∀ v ∈ vs, spanB ws v = true) {x : Nat} (hx : spanB vs x = true) : spanB ws x = true :=
  span_ind (Q := fun x => spanB ws x = true) (span_zero ws) (fun _ _ => span_xor) h hx
theorem span_lt {vs : List Nat} {C : Nat} (h : ∀ v ∈ vs, v < 2 ^ C) {x : Nat} (hx : spanB vs x = true) : x < 2 ^ C :=
  span_ind (Q := fun x => x < 2 ^ C) (Nat.two_pow_pos C) (fun _ _ h1 h2 => Nat.xor_lt_two_pow h1 h2) h hx
/-- How many sums there are. -/
def sz (C : Nat) (vs : List Nat) : Nat := cnt (spanB vs) (2 ^ C)
theorem sz_nil (C : Nat) : sz C [] = 1 := cnt_only (a := 0) (Nat.two_pow_pos C) fun x _ => by
  show (x == 0) = _
  rw [Bool.eq_iff_iff]; simp
theorem sz_in {C v : Nat} {vs : List Nat} (h : spanB vs v = true) : sz C (v :: vs) = sz C vs := cnt_congr fun x _ => by
  rw [Bool.eq_iff_iff, span_cons]
  refine ⟨fun e => e.elim id fun e => ?_, .inl⟩
  have := span_xor e h
  rwa [xor_back] at this
theorem sz_out {C v : Nat} {vs : List Nat} (hv : v < 2 ^ C) (h : spanB vs v = false) : sz C (v :: vs) = 2 * sz C vs := by
  have h1 : sz C (v :: vs) = cnt (spanB vs) (2 ^ C) + cnt (fun x => spanB vs (x ^^^ v)) (2 ^ C) := by
    refine cnt_or fun x _ e => ?_
    have := span_xor e.1 e.2
    rw [← Nat.xor_assoc, Nat.xor_self, Nat.zero_xor, h] at this
    cases this
  have h2 : cnt (fun x => spanB vs (x ^^^ v)) (2 ^ C) = cnt (spanB vs) (2 ^ C) := by
    refine Nat.le_antisymm ?_ ?_
    · exact cnt_inj (fun x => x ^^^ v) (fun x hx hp => ⟨Nat.xor_lt_two_pow hx hv, hp⟩) (fun x y _ _ _ _ e => by
        have e : x ^^^ v = y ^^^ v := e
        rw [← xor_back x v, e, xor_back])
    · exact cnt_inj (fun x => x ^^^ v) (fun x hx hp => ⟨Nat.xor_lt_two_pow hx hv, by show spanB vs ((x ^^^ v) ^^^ v) = true; rw [xor_back]; exact hp⟩) (fun x y _ _ _ _ e => by
        have e : x ^^^ v = y ^^^ v := e
        rw [← xor_back x v, e, xor_back])
  rw [h1, h2]; unfold sz; omega
/-- The rank. -/
def rk : List Nat → Nat
  | [] => 0
  | v :: vs => rk vs + if spanB vs v = true then 0 else 1
theorem sz_rk {C : Nat} {vs : List Nat} (h : ∀ v ∈ vs, v < 2 ^ C) : sz C vs = 2 ^ rk vs := by
  induction vs with
  | nil => exact sz_nil C
  | cons v vs ih =>
    have ih := ih fun w hw => h w (List.mem_cons_of_mem _ hw)
    rw [rk]
    by_cases e : spanB vs v = true
    · rw [if_pos e, sz_in e, ih]; rfl
    · rw [if_neg e, sz_out (h v List.mem_cons_self) (by simpa using e), ih, Nat.pow_succ, Nat.mul_comm]
theorem rk_le_len (vs : List Nat) : rk vs ≤ vs.length := by
  induction vs with
  | nil => exact Nat.le_refl _
  | cons v vs ih => rw [rk, List.length_cons]; split <;> omega
/-- Bounds of all rows at once. -/
theorem exists_bound (vs : List Nat) : ∃ C, ∀ v ∈ vs, v < 2 ^ C := by
  induction vs with
  | nil => exact ⟨0, fun v h => by cases h⟩
  | cons v vs ih =>
    obtain ⟨C, hC⟩ := ih
    refine ⟨C + v, fun w hw => ?_⟩
    rcases List.mem_cons.1 hw with e | e
    · subst e; exact Nat.lt_of_lt_of_le Nat.lt_two_pow_self (Nat.pow_le_pow_right (by omega) (by omega))
    · exact Nat.lt_of_lt_of_le (hC w e) (Nat.pow_le_pow_right (by omega) (by omega))
theorem exists_bound2 (vs ws : List Nat) : ∃ C, (∀ v ∈ vs, v < 2 ^ C) ∧ ∀ v ∈ ws, v < 2 ^ C := by
  obtain ⟨C, h⟩ := exists_bound (vs ++ ws)
  exact ⟨C, fun v hv => h v (List.mem_append_left _ hv), fun v hv => h v (List.mem_append_right _ hv)⟩
theorem rk_mono {vs ws : List Nat} (h : ∀ v ∈ vs, spanB ws v = true) : rk vs ≤ rk ws := by
  obtain ⟨C, h1, h2⟩ := exists_bound2 vs ws
  have h3 : sz C vs ≤ sz C ws := cnt_inj id (fun x hx hp => ⟨hx, span_le h hp⟩) (fun _ _ _ _ _ _ e => e)
  rw [sz_rk h1, sz_rk h2] at h3
  exact (Nat.pow_le_pow_iff_right (by omega)).1 h3
theorem rk_eq {vs ws : List Nat} (h : ∀ v ∈ vs, spanB ws v = true) (h' : ∀ v ∈ ws, spanB vs v = true) : rk vs = rk ws := Nat.le_antisymm (rk_mono h) (rk_mono h')
theorem rk_le_cols {vs : List Nat} {C : Nat} (h : ∀ v ∈ vs, v < 2 ^ C) : rk vs ≤ C := by
  have h1 := sz_rk h
  have h2 : sz C vs ≤ 2 ^ C := by
    have := cnt_inj (p := spanB vs) (N := 2 ^ C) (M := 2 ^ C) (q := fun _ => true) id (fun x hx _ => ⟨hx, rfl⟩) (fun _ _ _ _ _ _ e => e)
    rw [cnt_all (p := fun _ => true) fun _ _ => rfl] at this
    exact this
  rw [h1] at h2
  exact (Nat.pow_le_pow_iff_right (by omega)).1 h2
theorem rk_append_in {vs : List Nat} {v : Nat} (h : spanB vs v = true) : rk (v :: vs) = rk vs := by rw [rk, if_pos h]; rfl
theorem rk_append_out {vs : List Nat} {v : Nat} (h : spanB vs v = false) : rk (v :: vs) = rk vs + 1 := by rw [rk, if_neg (by rw [h]; decide)]
theorem rk_perm {vs ws : List Nat} (h : vs.Perm ws) : rk vs = rk ws := rk_eq (fun _ hv => span_mem (h.mem_iff.1 hv)) (fun _ hv => span_mem (h.mem_iff.2 hv))
/-! ### The first bit -/
def Lead (x c : Nat) : Prop := x.testBit c = true ∧ ∀ i, i < c → x.testBit i = false
theorem Lead.ne {x c : Nat} (h : Lead x c) : x ≠ 0 := fun e => by
  have := h.1
  rw [e, Nat.zero_testBit] at this; cases this
theorem Lead.eq {x c d : Nat} (h : Lead x c) (g : Lead x d) : c = d := by
  rcases Nat.lt_trichotomy c d with e | e | e
  · have := g.2 c e; rw [h.1] at this; cases this
  · exact e
  · have := h.2 d e; rw [g.1] at this; cases this
theorem Lead.xor {x y c d : Nat} (h : Lead x c) (g : Lead y d) (hcd : c < d) : Lead (x ^^^ y) c := by
  refine ⟨?_, fun i hi => ?_⟩
  · rw [Nat.testBit_xor, h.1, g.2 c hcd]; rfl
  · rw [Nat.testBit_xor, h.2 i hi, g.2 i (by omega)]; rfl
/-- Rows with different first bits: each sum has one of these. -/
theorem span_lead {vs : List Nat} {ld : Nat → Nat} (hl : ∀ v ∈ vs, Lead v (ld v)) (hd : vs.Pairwise fun v w => ld v ≠ ld w) : ∀ {x : Nat}, spanB vs x = true → x ≠ 0 → ∃ v ∈ vs, Lead x (ld v) := by
  induction vs with
  | nil => intro x h h0; exact absurd (span_nil.1 h) h0
  | cons v vs ih =>
    intro x h h0
    rw [List.pairwise_cons] at hd
    have ih := fun {x} => ih (fun w hw => hl w (List.mem_cons_of_mem _ hw)) hd.2 (x := x)
    have hv := hl v List.mem_cons_self
    rcases span_cons.1 h with h | h
    · obtain ⟨w, hw, hx⟩ := ih h h0
      exact ⟨w, List.mem_cons_of_mem _ hw, hx⟩
    · by_cases e : x ^^^ v = 0
      · have : x = v := by rw [← xor_back x v, e, Nat.zero_xor]
        rw [this]; exact ⟨v, List.mem_cons_self, hv⟩
      · obtain ⟨w, hw, hx⟩ := ih h e
        have hne := hd.1 w hw
        rcases Nat.lt_or_ge (ld w) (ld v) with g | g
        · have := hx.xor hv g
          rw [xor_back] at this
          exact ⟨w, List.mem_cons_of_mem _ hw, this⟩
        · have := hv.xor hx (by omega)
          rw [Nat.xor_comm x v, ← Nat.xor_assoc, Nat.xor_self, Nat.zero_xor] at this
          exact ⟨v, List.mem_cons_self, this⟩
theorem rk_lead {vs : List Nat} {ld : Nat → Nat} (hl : ∀ v ∈ vs, Lead v (ld v)) (hd : vs.Pairwise fun v w => ld v ≠ ld w) : rk vs = vs.length := by
  induction vs with
  | nil => rfl
  | cons v vs ih =>
    rw [List.pairwise_cons] at hd
    have h1 := ih (fun w hw => hl w (List.mem_cons_of_mem _ hw)) hd.2
    have h2 : spanB vs v = false := by
      rw [← Bool.not_eq_true]
      intro e
      obtain ⟨w, hw, hx⟩ := span_lead (fun w hw => hl w (List.mem_cons_of_mem _ hw)) hd.2 e (hl v List.mem_cons_self).ne
      exact hd.1 w hw ((hl v List.mem_cons_self).eq hx)
    rw [rk_append_out h2, h1]; rfl
/-! ### Linear ways -/
theorem span_map {φ : Nat → Nat} (h0 : φ 0 = 0) (hx : ∀ x y, φ (x ^^^ y) = φ x ^^^ φ y) (vs : List Nat) (y : Nat) : spanB (vs.map φ) y = true ↔ ∃ x, spanB vs x = true ∧ φ x = y := by
  constructor
  · intro h
    refine span_ind (Q := fun y => ∃ x, spanB vs x = true ∧ φ x = y) ⟨0, span_zero vs, h0⟩ ?_ ?_ h
    · rintro _ _ ⟨a, ha, rfl⟩ ⟨b, hb, rfl⟩
      exact ⟨a ^^^ b, span_xor ha hb, hx a b⟩
    · intro v hv
      obtain ⟨w, hw, rfl⟩ := List.mem_map.1 hv
      exact ⟨w, span_mem hw, rfl⟩
  · rintro ⟨x, h, rfl⟩
    refine span_ind (Q := fun x => spanB (vs.map φ) (φ x) = true) ?_ ?_ ?_ h
    · show spanB _ (φ 0) = true
      rw [h0]; exact span_zero _
    · intro a b ha hb
      show spanB _ (φ (a ^^^ b)) = true
      rw [hx]; exact span_xor ha hb
    · intro v hv
      exact span_mem (List.mem_map.2 ⟨v, hv, rfl⟩)
/-- One-to-one on the span: the rank is kept. -/
theorem rk_map {φ : Nat → Nat} (h0 : φ 0 = 0) (hx : ∀ x y, φ (x ^^^ y) = φ x ^^^ φ y) {vs : List Nat} {C : Nat} (hC : ∀ v ∈ vs, v < 2 ^ C) (hi : ∀ x, x < 2 ^ C → φ x = 0 → x = 0) : rk (vs.map φ) = rk vs := by
  induction vs with
  | nil => rfl
  | cons v vs ih =>
    have ih := ih fun w hw => hC w (List.mem_cons_of_mem _ hw)
    show rk (φ v :: vs.map φ) = rk (v :: vs)
    rw [rk, rk, ih]
    have : spanB (vs.map φ) (φ v) = spanB vs v := by
      rw [Bool.eq_iff_iff, span_map h0 hx]
      constructor
      · rintro ⟨x, h1, h2⟩
        have hxl := span_lt (fun w hw => hC w (List.mem_cons_of_mem _ hw)) h1
        have h3 : φ (x ^^^ v) = 0 := by rw [hx, h2, Nat.xor_self]
        have h4 := hi _ (Nat.xor_lt_two_pow hxl (hC v List.mem_cons_self)) h3
        have : x = v := by rw [← xor_back x v, h4, Nat.zero_xor]
        rw [← this]; exact h1
      · intro h; exact ⟨v, h, rfl⟩
    rw [this]
theorem rk_map_le {φ : Nat → Nat} (h0 : φ 0 = 0) (hx : ∀ x y, φ (x ^^^ y) = φ x ^^^ φ y) (vs : List Nat) : rk (vs.map φ) ≤ rk vs := by
  induction vs with
  | nil => exact Nat.le_refl _
  | cons v vs ih =>
    show rk (φ v :: vs.map φ) ≤ rk (v :: vs)
    rw [rk, rk]
    by_cases h : spanB vs v = true
    · have : spanB (vs.map φ) (φ v) = true := (span_map h0 hx vs _).2 ⟨v, h, rfl⟩
      rw [if_pos h, if_pos this]; exact ih
    · rw [if_neg h]; split <;> omega
end Go.Proofs.Ytlgiponfcmeiiaa
