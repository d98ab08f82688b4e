/- Plain law: a strand passes a crossing twice. -/
import Derived.Test.YtkopbcehfbmnmaaMirA
namespace Go.Proofs.Ytkopbcehfbmnmaa
open Go Go.RowKit
theorem orb_nodup {f : Nat → Nat} {x p N : Nat} (hf : Inj f N) (hx : x < N) (hp : IsPer f x p) : (orb f x p).Nodup := by
  unfold orb List.Nodup
  rw [List.pairwise_map]
  refine List.Pairwise.imp_of_mem ?_ List.pairwise_lt_range
  intro a b _ hb hab e
  exact iter_ne hf hx hp hab (List.mem_range.1 hb) e
theorem count_two (q : Nat → Bool) (u o : Nat) (huo : u ≠ o) (hu : q u = true) (ho : q o = true) : ∀ l : List Nat, l.Nodup → (∀ x ∈ l, q x = true → x = u ∨ x = o) → l.countP q = (if u ∈ l then 1 else 0) + (if o ∈ l then 1 else 0) := by
  intro l
  induction l with
  | nil => intro _ _; rfl
  | cons x l ih =>
    intro hn hq
    rw [List.nodup_cons] at hn
    have h := ih hn.2 fun y hy => hq y (List.mem_cons_of_mem _ hy)
    rw [List.countP_cons, h]
    by_cases e1 : x = u
    · subst e1
      rw [if_pos hu, if_neg hn.1, if_pos List.mem_cons_self]
      by_cases e2 : o ∈ l
      · rw [if_pos e2, if_pos (List.mem_cons_of_mem _ e2)]
      · rw [if_neg e2, if_neg (fun e => by rcases List.mem_cons.1 e with e | e; exact huo e.symm; exact e2 e)]
    · by_cases e2 : x = o
      · subst e2
        rw [if_pos ho, if_neg hn.1, if_pos (List.mem_cons_self (a := x))]
        by_cases e3 : u ∈ l
        · rw [if_pos e3, if_pos (List.mem_cons_of_mem _ e3)]
        · rw [if_neg e3, if_neg (fun e => by rcases List.mem_cons.1 e with e | e; exact huo e; exact e3 e)]
      · have hx : q x = false := by
          rw [← Bool.not_eq_true]
          intro e
          rcases hq x List.mem_cons_self e with g | g
          · exact e1 g
          · exact e2 g
        have m1 : u ∈ x :: l ↔ u ∈ l := ⟨fun e => (List.mem_cons.1 e).resolve_left fun g => e1 g.symm, List.mem_cons_of_mem _⟩
        have m2 : o ∈ x :: l ↔ o ∈ l := ⟨fun e => (List.mem_cons.1 e).resolve_left fun g => e2 g.symm, List.mem_cons_of_mem _⟩
        have hx0 : ¬ q x = true := by rw [hx]; decide
        simp only [m1, m2, if_neg hx0, Nat.add_zero]
/-- How often a list passes c; does one of the lists pass it twice. -/
def atC (c : Nat) (l : List Nat) : Nat := l.countP fun h => decide (h / 4 = c)
def sameB (c : Nat) (ls : List (List Nat)) : Bool := ls.any fun l => decide (atC c l = 2)
theorem atC_snoc (c : Nat) (l : List Nat) (x : Nat) : atC c (l ++ [x]) = atC c l + if x / 4 = c then 1 else 0 := by
  unfold atC
  rw [List.countP_append, List.countP_cons]
  by_cases h : x / 4 = c
  · simp [h]
  · simp [h]
theorem sameB_snoc (c : Nat) (ls : List (List Nat)) (l : List Nat) : sameB c (ls ++ [l]) = (sameB c ls || decide (atC c l = 2)) := by
  unfold sameB; rw [List.any_append]; simp
theorem same_iff {S M : List Int} {L : Int} (hv : vldB S M L = true) {c : Nat} (hc : c < S.length) : sameB c (strandsL S M L) = decide (st S M (4 * c + 2) = st S M (4 * c + 1)) := by
  have hs := vldB_shape hv
  obtain ⟨o1, o2, o3, o4, _⟩ := oo_spec hs hc
  have hu : 4 * c + 2 < 4 * S.length := by omega
  have hso : st S M (oo S c) = st S M (4 * c + 1) := by rw [hs.st_odd o1 o3, o2]
  have key : ∀ r, r ∈ leasts S M → (atC c (orb (sc M) r (perOf (sc M) (4 * S.length) r)) = 2 ↔ st S M (4 * c + 2) = r ∧ st S M (4 * c + 1) = r) := fun r hr => by
    have hrl := ((mem_leasts hs).1 hr).1
    have hct := count_two (fun h => decide (h / 4 = c)) (4 * c + 2) (oo S c) (by omega) (decide_eq_true (by omega)) (decide_eq_true o2) _ (orb_nodup hs.injS hrl (hs.perS r hrl)) (fun x hx hxc => by
      have hxc := of_decide_eq_true hxc
      obtain ⟨x1, x2, _⟩ := (mem_strand hs hr).1 hx
      by_cases e : x % 2 = 0
      · exact .inl (out_one hs x1 (by omega) (by omega) x2 (outB_2 S _ (by omega)))
      · exact .inr (out_one hs x1 (by omega) (by omega) x2 o4))
    show List.countP _ _ = 2 ↔ _
    rw [hct]
    have m1 : 4 * c + 2 ∈ orb (sc M) r (perOf (sc M) (4 * S.length) r) ↔ st S M (4 * c + 2) = r := by
      rw [mem_strand hs hr]
      exact ⟨fun h => h.2.2, fun h => ⟨hu, outB_2 S _ (by omega), h⟩⟩
    have m2 : oo S c ∈ orb (sc M) r (perOf (sc M) (4 * S.length) r) ↔ st S M (4 * c + 1) = r := by
      rw [mem_strand hs hr, hso]
      exact ⟨fun h => h.2.2, fun h => ⟨o1, o4, h⟩⟩
    simp only [m1, m2]
    by_cases g1 : st S M (4 * c + 2) = r
    · by_cases g2 : st S M (4 * c + 1) = r
      · rw [if_pos g1, if_pos g2]; exact ⟨fun _ => ⟨g1, g2⟩, fun _ => rfl⟩
      · rw [if_pos g1, if_neg g2]; exact ⟨fun h => by omega, fun h => absurd h.2 g2⟩
    · by_cases g2 : st S M (4 * c + 1) = r
      · rw [if_neg g1, if_pos g2]; exact ⟨fun h => by omega, fun h => absurd h.1 g1⟩
      · rw [if_neg g1, if_neg g2]; exact ⟨fun h => by omega, fun h => absurd h.1 g1⟩
  rw [Bool.eq_iff_iff, decide_eq_true_eq]
  unfold sameB
  rw [List.any_eq_true, strandsL_leasts hv]
  constructor
  · rintro ⟨l, hl, h⟩
    obtain ⟨r, hr, rfl⟩ := List.mem_map.1 hl
    have := (key r hr).1 (of_decide_eq_true h)
    rw [this.1, this.2]
  · intro h
    have hr := st_mem hs hu
    exact ⟨_, List.mem_map.2 ⟨_, hr, rfl⟩, decide_eq_true ((key _ hr).2 ⟨rfl, h.symm⟩)⟩
end Go.Proofs.Ytkopbcehfbmnmaa
