/- Plain: pivots: rows with different first bits that span the rows seen so far. -/
import Derived.Test.YtlgiponfcmeiiaaKMap
import Derived.Test.YtlgiponfcmeiiaaGfB
namespace Go.Proofs.Ytlgiponfcmeiiaa
open Go Go.RowKit
structure Piv (C : Nat) (ys : List Nat) (i : Nat) (ks : List Nat) (pv : Nat → Nat) : Prop where
  nd : ks.Nodup
  lt : ∀ k ∈ ks, k < C ∧ pv k < 2 ^ C ∧ Lead (pv k) k ∧ spanB ys (pv k) = true
  sp : ∀ v ∈ ys.take i, spanB (ks.map pv) v = true
theorem Piv.zero (C : Nat) (ys : List Nat) (pv : Nat → Nat) : Piv C ys 0 [] pv := ⟨List.nodup_nil, (fun k h => by cases h), fun v h => by simp at h⟩
theorem Piv.next {C : Nat} {ys : List Nat} {i : Nat} {ks : List Nat} {pv : Nat → Nat} (h : Piv C ys i ks pv) (hi : i < ys.length) (hs : spanB (ks.map pv) (ys.getD i 0) = true) : Piv C ys (i + 1) ks pv :=
  ⟨h.nd, h.lt, fun v hv => by
    rw [List.take_succ_eq_append_getElem hi] at hv
    rcases List.mem_append.1 hv with e | e
    · exact h.sp v e
    · obtain rfl := List.mem_singleton.1 e
      simpa [hi] using hs⟩
theorem map_updN {ks : List Nat} {pv : Nat → Nat} {k x : Nat} (hk : k ∉ ks) : ks.map (updN pv k x) = ks.map pv := List.map_congr_left fun j hj => by
  unfold updN
  rw [if_neg (fun e => hk (by rw [← e]; exact hj))]
theorem Piv.put {C : Nat} {ys : List Nat} {i : Nat} {ks : List Nat} {pv : Nat → Nat} (h : Piv C ys i ks pv) (hi : i < ys.length) {k x : Nat} (hk : k ∉ ks) (hkC : k < C) (hx : x < 2 ^ C) (hl : Lead x k) (hy : spanB ys x = true) (hs : spanB (ks.map pv) (x ^^^ ys.getD i 0) = true) :
    Piv C ys (i + 1) (k :: ks) (updN pv k x) := by
  have hm : (k :: ks).map (updN pv k x) = x :: ks.map pv := by
    rw [List.map_cons, map_updN hk]
    unfold updN; rw [if_pos rfl]
  refine ⟨List.nodup_cons.2 ⟨hk, h.nd⟩, fun j hj => ?_, fun v hv => ?_⟩
  · by_cases e : j = k
    · subst e; unfold updN; rw [if_pos rfl]; exact ⟨hkC, hx, hl, hy⟩
    · unfold updN; rw [if_neg e]
      exact h.lt j ((List.mem_cons.1 hj).resolve_left e)
  · rw [hm]
    rw [List.take_succ_eq_append_getElem hi] at hv
    rcases List.mem_append.1 hv with e | e
    · exact span_tail (h.sp v e)
    · obtain rfl := List.mem_singleton.1 e
      have : ys[i] = ys.getD i 0 := by simp [hi]
      rw [this]
      rw [span_cons, Nat.xor_comm]
      exact .inr hs
theorem Piv.rank {C : Nat} {ys : List Nat} {ks : List Nat} {pv : Nat → Nat} (h : Piv C ys ys.length ks pv) : rk ys = ks.length := by
  have h1 : rk ys = rk (ks.map pv) := rk_eq (fun v hv => h.sp v (by rw [List.take_length]; exact hv)) (fun v hv => by
    obtain ⟨k, hk, rfl⟩ := List.mem_map.1 hv
    exact (h.lt k hk).2.2.2)
  have key : ∀ l : List Nat, l.Nodup → (∀ k ∈ l, Lead (pv k) k) → rk (l.map pv) = l.length := by
    intro l
    induction l with
    | nil => intro _ _; rfl
    | cons k l ih =>
      intro hn hl
      rw [List.nodup_cons] at hn
      have h2 : spanB (l.map pv) (pv k) = false := by
        rw [← Bool.not_eq_true]
        intro e
        have hld : ∀ l' : List Nat, (∀ j ∈ l', Lead (pv j) j) → l'.Nodup → ∀ {x : Nat}, spanB (l'.map pv) x = true → x ≠ 0 → ∃ j ∈ l', Lead x j := by
          intro l'
          induction l' with
          | nil => intro _ _ x hx h0; exact absurd (span_nil.1 hx) h0
          | cons m l' ih' =>
            intro hl' hn' x hx h0
            rw [List.nodup_cons] at hn'
            have hm := hl' m List.mem_cons_self
            have ih'' := fun {x} => ih' (fun j hj => hl' j (List.mem_cons_of_mem _ hj)) hn'.2 (x := x)
            rcases span_cons.1 hx with g | g
            · obtain ⟨j, hj, hL⟩ := ih'' g h0
              exact ⟨j, List.mem_cons_of_mem _ hj, hL⟩
            · by_cases e0 : x ^^^ pv m = 0
              · have : x = pv m := by rw [← xor_back x (pv m), e0, Nat.zero_xor]
                rw [this]; exact ⟨m, List.mem_cons_self, hm⟩
              · obtain ⟨j, hj, hL⟩ := ih'' g e0
                have hne : m ≠ j := fun e => hn'.1 (by rw [e]; exact hj)
                rcases Nat.lt_or_ge j m with q | q
                · have := hL.xor hm q
                  rw [xor_back] at this
                  exact ⟨j, List.mem_cons_of_mem _ hj, this⟩
                · have := hm.xor hL (by omega)
                  rw [Nat.xor_comm x (pv m), ← Nat.xor_assoc, Nat.xor_self, Nat.zero_xor] at this
                  exact ⟨m, List.mem_cons_self, this⟩
        obtain ⟨j, hj, hL⟩ := hld l (fun j hj => hl j (List.mem_cons_of_mem _ hj)) hn.2 e (hl k List.mem_cons_self).ne
        have := (hl k List.mem_cons_self).eq hL
        exact hn.1 (by rw [this]; exact hj)
      rw [List.map_cons, rk_append_out h2, ih hn.2 fun j hj => hl j (List.mem_cons_of_mem _ hj)]; rfl
  rw [h1, key ks h.nd fun k hk => (h.lt k hk).2.2.1]
/-- The first column of a row; C for none. -/
def ldN (C x : Nat) : Nat := match rowOf C x with
  | [] => C
  | c :: _ => c.toNat
theorem ldN_le (C x : Nat) : ldN C x ≤ C := by
  unfold ldN
  split
  · exact Nat.le_refl _
  · rename_i c l h
    have := (rowOf_asc C x).2 c (by rw [h]; exact List.mem_cons_self)
    omega
theorem lead_sum {C x p k : Nat} (hx : x < 2 ^ C) (hp : p < 2 ^ C) (h1 : Lead x k) (h2 : Lead p k) (hk : k < C) : k < ldN C (x ^^^ p) := by
  unfold ldN
  split
  · exact hk
  · rename_i c l h
    obtain ⟨h3, h4, h5, h6⟩ := rowOf_lead h (Nat.xor_lt_two_pow hx hp)
    rcases Nat.lt_or_ge k c.toNat with g | g
    · exact g
    · rw [Nat.testBit_xor] at h5
      rcases Nat.lt_or_ge c.toNat k with q | q
      · rw [h1.2 _ q, h2.2 _ q] at h5; cases h5
      · rw [show c.toNat = k by omega, h1.1, h2.1] at h5; cases h5
theorem rowOf_head {C x : Nat} (hx : x < 2 ^ C) (hl : 0 < (rowOf C x).length) : nth (rowOf C x) 0 = (ldN C x : Nat) ∧ ldN C x < C ∧ Lead x (ldN C x) := by
  unfold ldN
  cases h : rowOf C x with
  | nil => rw [h] at hl; cases hl
  | cons c l =>
    obtain ⟨h3, h4, h5⟩ := rowOf_lead h hx
    refine ⟨?_, by show c.toNat < C; omega, h5⟩
    show c = ((c.toNat : Nat) : Int)
    omega
theorem IntsAt.turned {w w' : World} {a : Option Addr} {xs : List Int} (h : IntsAt w a xs) {b : Nat} (ht : w.mapTurned w' b) : IntsAt w' a xs := fun i v hi => by
  obtain ⟨b1, off, he, hc⟩ := h i v hi
  refine ⟨b1, off, he, ?_⟩
  obtain ⟨_, h2, _⟩ := mapTurned_block ht
  have hne : b1 ≠ b := fun e => by
    obtain ⟨es, c, es', c', hb, _⟩ := ht
    subst e
    unfold World.cell? at hc
    rw [hb] at hc
    simp at hc
  unfold World.cell? at hc ⊢
  rw [h2 b1 hne]
  exact hc
theorem TabAt.turnedM {w w' : World} {a : Option Addr} {T : List (List Int)} (h : TabAt w a T) {b : Nat} (ht : w.mapTurned w' b) : TabAt w' a T := fun i row hi => by
  obtain ⟨b1, off, a', c', he, hc, hl, hr⟩ := h i row hi
  refine ⟨b1, off, a', c', he, ?_, hl, hr.turned ht⟩
  obtain ⟨_, h2, _⟩ := mapTurned_block ht
  have hne : b1 ≠ b := fun e => by
    obtain ⟨es, c, es', c', hb, _⟩ := ht
    subst e
    unfold World.cell? at hc
    rw [hb] at hc
    simp at hc
  unfold World.cell? at hc ⊢
  rw [h2 b1 hne]
  exact hc
end Go.Proofs.Ytlgiponfcmeiiaa
