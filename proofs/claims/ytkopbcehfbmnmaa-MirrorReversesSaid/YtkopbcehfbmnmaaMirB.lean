/- Plain laws: the operations of mirror one after the other: they commute, undo themselves; all switches together. -/
import Derived.Test.YtkopbcehfbmnmaaMirA
namespace Go.Proofs.Ytkopbcehfbmnmaa
open Go Go.RowKit
theorem ext_range {l r : List Int} {n : Nat} (h1 : l.length = n) (h2 : r.length = n) (h : ∀ i, i < n → nth l i = nth r i) : l = r := ext_nth (h1.trans h2.symm) fun i hi => h i (h1 ▸ hi)
theorem mulS_comp (S : List Int) (g h : Nat → Int) : mulS (mulS S g) h = mulS S fun c => g c * h c := by
  refine ext_range (n := S.length) (by rw [mulS_len, mulS_len]) (mulS_len S _) fun i hi => ?_
  rw [nth_mulS _ _ _ (by rw [mulS_len]; exact hi), nth_mulS _ _ _ hi, nth_mulS _ _ _ hi, Int.mul_assoc]
theorem mulS_congr {S : List Int} {g h : Nat → Int} (e : ∀ c, c < S.length → g c = h c) : mulS S g = mulS S h := by
  refine ext_range (n := S.length) (mulS_len S _) (mulS_len S _) fun i hi => ?_
  rw [nth_mulS _ _ _ hi, nth_mulS _ _ _ hi, e i hi]
theorem mulS_one {S : List Int} {g : Nat → Int} (e : ∀ c, c < S.length → g c = 1) : mulS S g = S := by
  refine ext_range (n := S.length) (mulS_len S _) rfl fun i hi => ?_
  rw [nth_mulS _ _ _ hi, e i hi, Int.mul_one]
/-- Two moves are one. -/
theorem mvL_comp {M : List Int} {n : Nat} (hM : M.length = 4 * n) (_ : ∀ x, x < 4 * n → mt M x < 4 * n) {τ σ : Nat → Nat} (hτ : Inj τ (4 * n)) (hσ : Inj σ (4 * n)) : mvL σ (mvL τ M) = mvL (fun x => σ (τ x)) M := by
  have hc : Inj (fun x => σ (τ x)) (4 * n) := ⟨fun x hx => hσ.lt _ (hτ.lt x hx), fun x y hx hy e => hτ.inj x y hx hy (hσ.inj _ _ (hτ.lt x hx) (hτ.lt y hy) e)⟩
  have hl : (mvL τ M).length = 4 * n := by rw [mvL_len, hM]
  refine ext_range (n := 4 * n) (by rw [mvL_len, hl]) (by rw [mvL_len, hM]) fun i hi => ?_
  obtain ⟨x, hx, rfl⟩ : ∃ x, x < 4 * n ∧ σ (τ x) = i := ⟨back _ (4 * n) i, back_lt hc hi, f_back hc hi⟩
  have h1 := nth_mvL hl hσ (τ x) (hτ.lt x hx)
  have h2 := nth_mvL hM hτ x hx
  have h3 := nth_mvL hM hc x hx
  have h4 : mt (mvL τ M) (τ x) = τ (mt M x) := by unfold mt at h2 ⊢; omega
  rw [h1, h4, h3]
theorem mvL_id {M : List Int} {n : Nat} (hM : M.length = 4 * n) (hmt : ∀ x, x < 4 * n → nth M x = ((mt M x : Nat) : Int)) : mvL (fun x => x) M = M := by
  refine ext_range (n := 4 * n) (by rw [mvL_len, hM]) hM fun i hi => ?_
  rw [nth_mvL (τ := fun x => x) hM ⟨fun x hx => hx, fun x y _ _ e => e⟩ i hi, hmt i hi]
/-- A move of the slots at each crossing, by the slot's number. -/
def slm (f : Nat → Nat → Nat) (x : Nat) : Nat := 4 * (x / 4) + f (x / 4) (x % 4)
theorem slm_div {f : Nat → Nat → Nat} (hf : ∀ c s, s < 4 → f c s < 4) (x : Nat) : slm f x / 4 = x / 4 := by
  have := hf (x / 4) (x % 4) (Nat.mod_lt _ (by decide)); unfold slm; omega
theorem slm_mod {f : Nat → Nat → Nat} (hf : ∀ c s, s < 4 → f c s < 4) (x : Nat) : slm f x % 4 = f (x / 4) (x % 4) := by
  have := hf (x / 4) (x % 4) (Nat.mod_lt _ (by decide)); unfold slm; omega
theorem slm_comp {f g : Nat → Nat → Nat} (hf : ∀ c s, s < 4 → f c s < 4) (x : Nat) : slm g (slm f x) = slm (fun c s => g c (f c s)) x := by
  show 4 * (slm f x / 4) + g (slm f x / 4) (slm f x % 4) = 4 * (x / 4) + g (x / 4) (f (x / 4) (x % 4))
  rw [slm_div hf, slm_mod hf]
/-- The slots' moves of the operations. -/
def sl (kind : Nat) (pos ch : Bool) (s : Nat) : Nat :=
  if kind = 0 then (s + if pos then 1 else 3) % 4
  else if kind = 1 then (4 - s) % 4
  else if kind = 2 then (s + 2) % 4
  else if ch then (s + if pos then 1 else 3) % 4 else s
/-- .. the signs'. -/
def sgn (kind : Nat) (pos ch : Bool) : Bool := if kind = 0 ∨ kind = 1 then !pos else if kind = 2 then pos else if ch then !pos else pos
theorem sl_lt (kind : Nat) (pos ch : Bool) {s : Nat} (hs : s < 4) : sl kind pos ch s < 4 := by
  unfold sl
  repeat' split
  all_goals omega
theorem sl_comm : ∀ a, a < 4 → ∀ b, b < 4 → ∀ pos ch dh : Bool, ∀ s, s < 4 → sl b (sgn a pos ch) dh (sl a pos ch s) = sl a (sgn b pos dh) ch (sl b pos dh s) := by decide
theorem sl_undo : ∀ a, a < 4 → ∀ pos ch : Bool, ∀ s, s < 4 → sl a (sgn a pos ch) ch (sl a pos ch s) = s := by decide
/-- The operation of a kind: the signs' factor, the move. -/
def opG (kind q : Nat) : Nat → Int := if kind = 0 then swS fun _ => true else if kind = 1 then fun _ => -1 else if kind = 2 then fun _ => 1 else swS fun c => decide (c = q)
def opT (S : List Int) (kind q : Nat) : Nat → Nat := if kind = 0 then trn (swB S fun _ => true) else if kind = 1 then rfl4 else if kind = 2 then trn fun _ => 2 else trn (swB S fun c => decide (c = q))
theorem opG_one (kind q c : Nat) : opG kind q c = 1 ∨ opG kind q c = -1 := by
  unfold opG
  by_cases h0 : kind = 0
  · rw [if_pos h0]; exact .inr rfl
  · rw [if_neg h0]
    by_cases h1 : kind = 1
    · rw [if_pos h1]; exact .inr rfl
    · rw [if_neg h1]
      by_cases h2 : kind = 2
      · rw [if_pos h2]; exact .inl rfl
      · rw [if_neg h2]
        unfold swS
        split
        · exact .inr rfl
        · exact .inl rfl
section
variable {S : List Int} (hS : ∀ c, c < S.length → nth S c = 1 ∨ nth S c = -1)
include hS
theorem opT_slm (kind q x : Nat) (hx : x < 4 * S.length) (hk : kind < 4) : opT S kind q x = slm (fun c s => sl kind (decide (nth S c = 1)) (decide (c = q)) s) x := by
  have hc : x / 4 < S.length := by omega
  have hm : x % 4 < 4 := Nat.mod_lt _ (by decide)
  unfold opT slm
  rcases (show kind = 0 ∨ kind = 1 ∨ kind = 2 ∨ kind = 3 from by omega) with rfl | rfl | rfl | rfl
  · rw [if_pos rfl]
    show tn x (swB S (fun _ => true) (x / 4)) = 4 * (x / 4) + ((x % 4) + if decide (nth S (x / 4) = 1) = true then 1 else 3) % 4
    unfold swB
    rw [if_pos rfl]
    rcases hS _ hc with g | g <;> rw [g]
    · rw [if_pos rfl, if_pos (by decide)]; unfold tn; omega
    · rw [if_neg (by omega), if_neg (by decide)]; unfold tn; omega
  · rw [if_neg (by omega), if_pos rfl, rfl4_val]; rfl
  · rw [if_neg (by omega), if_neg (by omega), if_pos rfl]
    show tn x 2 = 4 * (x / 4) + (x % 4 + 2) % 4
    unfold tn; omega
  · rw [if_neg (by omega), if_neg (by omega), if_neg (by omega)]
    show tn x (swB S (fun c => decide (c = q)) (x / 4)) = 4 * (x / 4) + (if decide (x / 4 = q) = true then ((x % 4) + if decide (nth S (x / 4) = 1) = true then 1 else 3) % 4 else x % 4)
    unfold swB
    by_cases e : x / 4 = q
    · have ed : decide (x / 4 = q) = true := decide_eq_true e
      rw [if_pos ed, if_pos ed]
      rcases hS _ hc with g | g <;> rw [g]
      · rw [if_pos rfl, if_pos (by decide)]; unfold tn; omega
      · rw [if_neg (by omega), if_neg (by decide)]; unfold tn; omega
    · have ed : ¬ decide (x / 4 = q) = true := by rw [decide_eq_false e]; decide
      rw [if_neg ed, if_neg ed]; unfold tn; omega
theorem opG_sgn (kind q c : Nat) (hk : kind < 4) (hc : c < S.length) : decide (nth (mulS S (opG kind q)) c = 1) = sgn kind (decide (nth S c = 1)) (decide (c = q)) := by
  rw [nth_mulS _ _ _ hc]
  unfold opG sgn swS
  rcases (show kind = 0 ∨ kind = 1 ∨ kind = 2 ∨ kind = 3 from by omega) with rfl | rfl | rfl | rfl
  · rcases hS _ hc with g | g <;> rw [g] <;> rfl
  · rcases hS _ hc with g | g <;> rw [g] <;> rfl
  · rcases hS _ hc with g | g <;> rw [g] <;> rfl
  · by_cases e : c = q
    · rw [decide_eq_true e]
      rcases hS _ hc with g | g <;> rw [g] <;> simp [e]
    · rw [decide_eq_false e]
      rcases hS _ hc with g | g <;> rw [g] <;> simp [e]
theorem opS_sign (kind q : Nat) : ∀ c, c < (mulS S (opG kind q)).length → nth (mulS S (opG kind q)) c = 1 ∨ nth (mulS S (opG kind q)) c = -1 := by
  intro c hc
  rw [mulS_len] at hc
  rw [nth_mulS _ _ _ hc]
  rcases hS c hc with g | g <;> rcases opG_one kind q c with h | h <;> rw [g, h] <;> simp
theorem opT_two (a b q r x : Nat) (ha : a < 4) (hb : b < 4) (hx : x < 4 * S.length) : opT (mulS S (opG a q)) b r (opT S a q x) = slm (fun c s => sl b (sgn a (decide (nth S c = 1)) (decide (c = q))) (decide (c = r)) (sl a (decide (nth S c = 1)) (decide (c = q)) s)) x := by
  have hf : ∀ c s, s < 4 → sl a (decide (nth S c = 1)) (decide (c = q)) s < 4 := fun c s hs => sl_lt _ _ _ hs
  have h1 := opT_slm hS a q x hx ha
  have hd := slm_div hf x
  generalize hz : slm (fun c s => sl a (decide (nth S c = 1)) (decide (c = q)) s) x = z at h1 hd
  have hl : z < 4 * (mulS S (opG a q)).length := by rw [mulS_len]; omega
  rw [h1, opT_slm (opS_sign hS a q) b r _ hl hb, ← hz, slm_comp hf]
  have hg := opG_sgn hS a q (x / 4) ha (by omega)
  unfold slm
  show 4 * (x / 4) + sl b (decide (nth (mulS S (opG a q)) (x / 4) = 1)) _ _ = _
  rw [hg]
theorem opT_comm (a b q r x : Nat) (ha : a < 4) (hb : b < 4) (hx : x < 4 * S.length) : opT (mulS S (opG a q)) b r (opT S a q x) = opT (mulS S (opG b r)) a q (opT S b r x) := by
  rw [opT_two hS a b q r x ha hb hx, opT_two hS b a r q x hb ha hx]
  unfold slm
  exact congrArg (4 * (x / 4) + ·) (sl_comm a ha b hb _ _ _ _ (Nat.mod_lt _ (by decide)))
theorem opT_undo (a q x : Nat) (ha : a < 4) (hx : x < 4 * S.length) : opT (mulS S (opG a q)) a q (opT S a q x) = x := by
  rw [opT_two hS a a q q x ha ha hx]
  unfold slm
  have hu := sl_undo a ha (decide (nth S (x / 4) = 1)) (decide (x / 4 = q)) (x % 4) (Nat.mod_lt _ (by decide))
  show 4 * (x / 4) + sl a _ _ (sl a _ _ (x % 4)) = x
  rw [hu]; omega
end
theorem opT_inj (S : List Int) (kind q n : Nat) : Inj (opT S kind q) (4 * n) := by
  unfold opT
  split
  · exact trn_inj _ (fun c => (swB_bd S _ c).1) n
  · split
    · exact rfl4_inj n
    · split
      · exact trn_inj _ (fun c => by omega) n
      · exact trn_inj _ (fun c => (swB_bd S _ c).1) n
section
variable {S M : List Int} {L : Int} (hv : vldB S M L = true)
include hv
theorem op_valid (kind q : Nat) : vldB (mulS S (opG kind q)) (mvL (opT S kind q) M) L = true := by
  unfold opG opT
  split
  · exact ex_valid hv _
  · split
    · exact rf_valid hv
    · split
      · exact rv_valid hv
      · exact ex_valid hv _
theorem op_comm (a b q r : Nat) (ha : a < 4) (hb : b < 4) : mulS (mulS S (opG a q)) (opG b r) = mulS (mulS S (opG b r)) (opG a q) ∧ mvL (opT (mulS S (opG a q)) b r) (mvL (opT S a q) M) = mvL (opT (mulS S (opG b r)) a q) (mvL (opT S b r) M) := by
  have hs := vldB_shape hv
  refine ⟨?_, ?_⟩
  · rw [mulS_comp, mulS_comp]
    exact mulS_congr fun c _ => Int.mul_comm _ _
  · rw [mvL_comp hs.len (fun x hx => hs.mt_lt hx) (opT_inj _ _ _ _) (opT_inj _ _ _ _), mvL_comp hs.len (fun x hx => hs.mt_lt hx) (opT_inj _ _ _ _) (opT_inj _ _ _ _)]
    exact mvL_congr hs.len (fun x hx => hs.mt_lt hx) fun x hx => opT_comm hs.sign a b q r x ha hb hx
theorem op_undo (a q : Nat) (ha : a < 4) : mulS (mulS S (opG a q)) (opG a q) = S ∧ mvL (opT (mulS S (opG a q)) a q) (mvL (opT S a q) M) = M := by
  have hs := vldB_shape hv
  refine ⟨?_, ?_⟩
  · rw [mulS_comp]
    refine mulS_one fun c _ => ?_
    rcases opG_one a q c with h | h <;> rw [h] <;> rfl
  · rw [mvL_comp hs.len (fun x hx => hs.mt_lt hx) (opT_inj _ _ _ _) (opT_inj _ _ _ _), mvL_congr hs.len (fun x hx => hs.mt_lt hx) fun x hx => opT_undo hs.sign a q x ha hx]
    exact mvL_id hs.len fun x hx => (hs.cast x hx).symm
end
section
variable {S M : List Int} {L : Int} (hv : vldB S M L = true)
include hv
theorem sw_more (ch : Nat → Bool) (q : Nat) (hq : ch q = false) :
    mulS (mulS S (swS ch)) (swS fun c => decide (c = q)) = mulS S (swS fun c => ch c || decide (c = q)) ∧
    mvL (trn (swB (mulS S (swS ch)) fun c => decide (c = q))) (mvL (trn (swB S ch)) M) = mvL (trn (swB S fun c => ch c || decide (c = q))) M := by
  have hs := vldB_shape hv
  refine ⟨?_, ?_⟩
  · rw [mulS_comp]
    refine mulS_congr fun c _ => ?_
    unfold swS
    show (if ch c = true then (-1 : Int) else 1) * (if decide (c = q) = true then -1 else 1) = if (ch c || decide (c = q)) = true then -1 else 1
    by_cases e : c = q
    · subst e; rw [hq]; simp
    · rw [decide_eq_false e, Bool.or_false, if_neg (show ¬ (false = true) by decide), Int.mul_one]
  · rw [mvL_comp hs.len (fun x hx => hs.mt_lt hx) (trn_inj _ (fun c => (swB_bd S _ c).1) _) (trn_inj _ (fun c => (swB_bd _ _ c).1) _)]
    refine mvL_congr hs.len (fun x hx => hs.mt_lt hx) fun x hx => ?_
    show tn (tn x (swB S ch (x / 4))) (swB (mulS S (swS ch)) (fun c => decide (c = q)) (tn x (swB S ch (x / 4)) / 4)) = tn x (swB S (fun c => ch c || decide (c = q)) (x / 4))
    rw [tn_div]
    by_cases e : x / 4 = q
    · have h1 : swB S ch (x / 4) = 0 := by unfold swB; rw [e, hq]; rfl
      have h2 : nth (mulS S (swS ch)) (x / 4) = nth S (x / 4) := by
        rw [nth_mulS _ _ _ (by omega)]
        unfold swS; rw [e, hq]
        show _ * (if false = true then (-1 : Int) else 1) = _
        rw [if_neg (by decide), Int.mul_one]
      have h3 : (ch (x / 4) || decide (x / 4 = q)) = decide (x / 4 = q) := by rw [e, hq, Bool.false_or]
      rw [h1, tn_zero]
      show tn x (if decide (x / 4 = q) = true then (if nth (mulS S (swS ch)) (x / 4) = 1 then -3 else -1) else 0) = tn x (if (ch (x / 4) || decide (x / 4 = q)) = true then (if nth S (x / 4) = 1 then -3 else -1) else 0)
      rw [h2, h3]
    · have h1 : swB (mulS S (swS ch)) (fun c => decide (c = q)) (x / 4) = 0 := by
        show (if decide (x / 4 = q) = true then _ else (0 : Int)) = 0
        rw [decide_eq_false e]; rfl
      have h3 : (ch (x / 4) || decide (x / 4 = q)) = ch (x / 4) := by rw [decide_eq_false e, Bool.or_false]
      rw [h1, tn_zero]
      show tn x (if ch (x / 4) = true then _ else 0) = tn x (if (ch (x / 4) || decide (x / 4 = q)) = true then _ else 0)
      rw [h3]
theorem sw_none : mulS S (swS fun _ => false) = S ∧ mvL (trn (swB S fun _ => false)) M = M := by
  have hs := vldB_shape hv
  refine ⟨mulS_one fun c _ => rfl, ?_⟩
  have e : mvL (trn (swB S fun _ => false)) M = mvL (fun x => x) M := mvL_congr hs.len (fun x hx => hs.mt_lt hx) fun x _ => tn_zero x
  rw [e]
  exact mvL_id hs.len fun x hx => (hs.cast x hx).symm
/-- All, one after the other. -/
theorem sw_all (ch : Nat → Bool) (h : ∀ c, c < S.length → ch c = true) : mulS S (swS ch) = mulS S (swS fun _ => true) ∧ mvL (trn (swB S ch)) M = mvL (trn (swB S fun _ => true)) M := by
  have hs := vldB_shape hv
  refine ⟨mulS_congr fun c hc => by unfold swS; rw [h c hc], ?_⟩
  refine mvL_congr hs.len (fun x hx => hs.mt_lt hx) fun x hx => ?_
  show tn x _ = tn x _
  unfold swB
  rw [h (x / 4) (by omega)]
end
/-- The crossings (j + first) mod n for j < i. -/
def turnS (n f i : Nat) (c : Nat) : Bool := decide (∃ j, j < i ∧ (j + f) % n = c)
theorem turnS_zero (n f : Nat) : turnS n f 0 = fun _ => false := by
  funext c
  exact decide_eq_false fun ⟨j, h, _⟩ => absurd h (Nat.not_lt_zero j)
theorem turnS_succ (n f i : Nat) : turnS n f (i + 1) = fun c => turnS n f i c || decide (c = (i + f) % n) := by
  funext c
  unfold turnS
  rw [← Bool.decide_or, decide_eq_decide]
  constructor
  · rintro ⟨j, h, e⟩
    by_cases g : j = i
    · subst g; exact .inr e.symm
    · exact .inl ⟨j, by omega, e⟩
  · rintro (⟨j, h, e⟩ | h)
    · exact ⟨j, by omega, e⟩
    · exact ⟨i, by omega, h.symm⟩
theorem turnS_new (n f i : Nat) (hi : i < n) : turnS n f i ((i + f) % n) = false := by
  refine decide_eq_false ?_
  rintro ⟨j, h, e⟩
  have h1 := Nat.div_add_mod (i + f) n
  have h2 := Nat.div_add_mod (j + f) n
  rw [e] at h2
  have h3 : n * ((i + f) / n) = n * ((j + f) / n) + (i - j) := by omega
  rcases Nat.lt_or_ge ((j + f) / n) ((i + f) / n) with g | g
  · have : n * ((j + f) / n + 1) ≤ n * ((i + f) / n) := Nat.mul_le_mul_left n g
    rw [Nat.mul_add] at this; omega
  · have : n * ((i + f) / n) ≤ n * ((j + f) / n) := Nat.mul_le_mul_left n g
    omega
theorem turnS_all (n f : Nat) : ∀ c, c < n → turnS n f n c = true := by
  intro c hc
  refine decide_eq_true ⟨(c + (n - f % n)) % n, Nat.mod_lt _ (by omega), ?_⟩
  have hf := Nat.mod_lt f (show 0 < n by omega)
  have h1 : ((c + (n - f % n)) % n + f) % n = (c + (n - f % n) + f) % n := by rw [Nat.add_mod, Nat.mod_mod, ← Nat.add_mod]
  rw [h1]
  have h2 := Nat.div_add_mod f n
  rw [show c + (n - f % n) + f = c + n * (f / n + 1) from by rw [Nat.mul_add]; omega, Nat.add_mul_mod_self_left, Nat.mod_eq_of_lt hc]
end Go.Proofs.Ytkopbcehfbmnmaa
