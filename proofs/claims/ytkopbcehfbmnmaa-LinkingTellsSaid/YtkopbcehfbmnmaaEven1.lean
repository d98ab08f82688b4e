/- Plain law: the crossings of two strands are even in number. -/
import Derived.Test.YtkopbcehfbmnmaaStrand1
namespace Go.Proofs.Ytkopbcehfbmnmaa
open Go Go.RowKit
/-- Along an orbit a property is counted alike one step on. -/
theorem orbit_shift {f per : Nat → Nat} {N : Nat} (hf : Inj f N) (hp : ∀ x, x < N → IsPer f x (per x)) (x : Nat) (Q : Nat → Bool) : cnt (fun y => decide (fl f per y = x) && Q (f y)) N = cnt (fun y => decide (fl f per y = x) && Q y) N := by
  have hb : ∀ y, y < N → f (iter f (per y - 1) y) = y := fun y hy => by
    have hpp := hp y hy
    have := hpp.2.1
    rw [show per y = (per y - 1) + 1 from by have := hpp.1; omega, iter_succ] at this
    exact this
  refine Nat.le_antisymm ?_ ?_
  · refine cnt_inj f (fun y hy hpy => ?_) (fun a b ha hb _ _ he => hf.inj a b ha hb he)
    simp only [Bool.and_eq_true, decide_eq_true_eq] at hpy ⊢
    exact ⟨hf.lt y hy, by rw [fl_step hf hp hy]; exact hpy.1, hpy.2⟩
  · refine cnt_inj (fun y => iter f (per y - 1) y) (fun y hy hpy => ?_) (fun a b ha hb' _ _ he => ?_)
    · simp only [Bool.and_eq_true, decide_eq_true_eq] at hpy ⊢
      exact ⟨iter_lt f N hf.lt _ _ hy, by rw [fl_eq hf hp hy ⟨_, rfl⟩]; exact hpy.1, by rw [hb y hy]; exact hpy.2⟩
    · rw [← hb a ha, he, hb b hb']
namespace Shape
variable {S M : List Int} {L : Int} (hs : Shape S M L)
include hs
theorem conn_mt {c x : Nat} (hx : x < 4 * S.length) : Conn M c (x / 4) ↔ Conn M c (mt M x / 4) := hs.mates2.conn hx
theorem conn_sc {c x k : Nat} (hx : x < 4 * S.length) (h : Conn M c (x / 4)) : Conn M c (iter (sc M) k x / 4) := by
  induction k with
  | zero => exact h
  | succ k ih =>
    have hy := iter_lt (sc M) _ hs.injS.lt k x hx
    rw [iter_succ, show sc M (iter (sc M) k x) = tn (mt M (iter (sc M) k x)) 2 from rfl, tn_div]
    exact (hs.conn_mt hy).1 ih
/-- The even number of half-edges at a crossing that lie on a strand. -/
theorem strand_even (p c : Nat) : cnt (fun x => decide (x / 4 = c) && decide (st S M x = p)) (4 * S.length) % 2 = 0 :=
  cnt_even (fun x => tn x 2) fun x hx h => by
    rw [Bool.and_eq_true, decide_eq_true_eq, decide_eq_true_eq] at h ⊢
    refine ⟨tn_lt _ _ _ hx, ⟨by rw [tn_div]; exact h.1, by rw [hs.st_tn2 hx]; exact h.2⟩, tn_22 x, ?_⟩
    have := tn_mod x 2
    intro e
    rw [e] at this
    omega
end Shape
/-- The outgoing half-edge of the strand over. -/
def oo (S : List Int) (c : Nat) : Nat := if nth S c = 1 then 4 * c + 1 else 4 * c + 3
theorem oo_spec {S M : List Int} {L : Int} (hs : Shape S M L) {c : Nat} (hc : c < S.length) : oo S c < 4 * S.length ∧ oo S c / 4 = c ∧ oo S c % 2 = 1 ∧ outB S (oo S c) = true ∧ (oo S c = 4 * c + 1 ∨ oo S c = 4 * c + 3) := by
  unfold oo
  rcases hs.sign c hc with g | g
  · rw [if_pos g]
    exact ⟨by omega, by omega, by omega, by rw [outB_1 S _ (by omega), show (4 * c + 1) / 4 = c from by omega, g]; rfl, .inl rfl⟩
  · rw [if_neg (by omega)]
    exact ⟨by omega, by omega, by omega, by rw [outB_3 S _ (by omega), show (4 * c + 3) / 4 = c from by omega, g]; rfl, .inr rfl⟩
/-- Two outgoing half-edges of one crossing and one parity are equal. -/
theorem out_one {S M : List Int} {L : Int} (hs : Shape S M L) {x y : Nat} (hx : x < 4 * S.length) (h : x / 4 = y / 4) (hp : x % 2 = y % 2) (h1 : outB S x = true) (h2 : outB S y = true) : x = y := by
  rcases (show x = y ∨ x = tn y 2 from by unfold tn; omega) with e | e
  · exact e
  · rw [e, hs.out_tn2 y (by omega), h2] at h1
    exact absurd h1 (by decide)
theorem st_tn1 {S M : List Int} {L : Int} (hs : Shape S M L) {x : Nat} (hx : x < 4 * S.length) : st S M (tn x 1) = if x % 2 = 0 then st S M (4 * (x / 4) + 1) else st S M (4 * (x / 4) + 2) := by
  have h1 := tn_div x 1
  have h2 : tn x 1 % 2 = (x + 1) % 2 := by unfold tn; omega
  have h3 := tn_lt x S.length 1 hx
  split
  · rw [hs.st_odd h3 (by omega), h1]
  · rw [hs.st_even h3 (by omega), h1]
open Classical in
/-- THE CROSSINGS OF TWO STRANDS ARE EVEN IN NUMBER. -/
theorem pair_even {S M : List Int} {L : Int} (hv : vldB S M L = true) (p q : Nat) (hpq : p ≠ q) :
    cnt (fun c => decide ((st S M (4 * c + 2) = p ∧ st S M (4 * c + 1) = q) ∨ (st S M (4 * c + 2) = q ∧ st S M (4 * c + 1) = p))) S.length % 2 = 0 := by
  obtain ⟨hs, hsp⟩ := vldB_iff.1 hv
  by_cases hq : q < 4 * S.length ∧ outB S q = true ∧ st S M q = q
  · obtain ⟨hq1, hq2, hq3⟩ := hq
    have hf := hs.injS
    have hp := hs.perS
    obtain ⟨A, hA⟩ := bounds hs.mates2 hsp (c0 := q / 4) (by omega) (fun x => decide (st S M x = p)) (fun x hx => by rw [hs.st_mt hx]) (fun c _ _ => hs.strand_even p c)
    have h1 := orbit_even hf hp (x := q) (fun y => A (lf M S.length y))
    have horb : ∀ y, y < 4 * S.length → fl (sc M) (perOf (sc M) (4 * S.length)) y = q → OnOrb (sc M) q y := fun y hy he => by
      have := (fl_spec hp hy).1
      rw [he] at this
      exact onOrb_symm hf hy this
    have h2 : cnt (fun y => decide (fl (sc M) (perOf (sc M) (4 * S.length)) y = q) && (A (lf M S.length y) ^^ A (lf M S.length (sc M y)))) (4 * S.length) = cnt (fun y => decide (fl (sc M) (perOf (sc M) (4 * S.length)) y = q) && (fun z => decide (st S M (tn z 1) = p)) (sc M y)) (4 * S.length) := by
      refine cnt_congr fun y hy => ?_
      by_cases he : fl (sc M) (perOf (sc M) (4 * S.length)) y = q
      · obtain ⟨k, hk⟩ := horb y hy he
        have hz := hs.mt_lt hy
        have hzc : Conn M (q / 4) (tn (mt M y) (-1) / 4) := by
          rw [tn_div, ← hs.conn_mt hy, ← hk]
          exact hs.conn_sc hq1 (Conn.refl _ _)
        have h3 := hA (tn (mt M y) (-1)) (tn_lt _ _ _ hz) hzc
        rw [hs.mates2.face_mt (tn_lt _ _ _ hz), tn_tn _ _ _ (by omega) (by omega) (by omega), ← hs.mates2.face_mt hz, hs.mt_mt hy] at h3
        have e1 : tn (mt M y) (-1 + -1) = sc M y := by
          rw [← tn_four _ _ (by omega)]; rfl
        have e2 : tn (sc M y) 1 = tn (mt M y) (-1) := by
          rw [show sc M y = tn (mt M y) 2 from rfl, tn_tn _ _ _ (by omega) (by omega) (by omega), ← tn_four _ (-1) (by omega)]; rfl
        rw [e1] at h3
        show (_ && _) = (_ && decide (st S M (tn (sc M y) 1) = p))
        rw [e2, h3]
      · rw [decide_eq_false he, Bool.false_and, Bool.false_and]
    rw [h2, orbit_shift hf hp q fun z => decide (st S M (tn z 1) = p)] at h1
    have h4 : cnt (fun y => decide (fl (sc M) (perOf (sc M) (4 * S.length)) y = q) && decide (st S M (tn y 1) = p)) (4 * S.length) = cnt (fun c => decide ((st S M (4 * c + 2) = p ∧ st S M (4 * c + 1) = q) ∨ (st S M (4 * c + 2) = q ∧ st S M (4 * c + 1) = p))) S.length := by
      have hy1 : ∀ y, y < 4 * S.length → (decide (fl (sc M) (perOf (sc M) (4 * S.length)) y = q) && decide (st S M (tn y 1) = p)) = true → outB S y = true ∧ st S M y = q ∧ st S M (tn y 1) = p := fun y hy h => by
        rw [Bool.and_eq_true, decide_eq_true_eq, decide_eq_true_eq] at h
        have ho : outB S y = true := by rw [hs.out_orb hq1 (horb y hy h.1)]; exact hq2
        exact ⟨ho, by rw [Shape.st_fl ho]; exact h.1, h.2⟩
      have hpar : ∀ y, y < 4 * S.length → st S M y = q → st S M (tn y 1) = p → (y % 2 = 0 → st S M (4 * (y / 4) + 2) = q ∧ st S M (4 * (y / 4) + 1) = p) ∧ (y % 2 = 1 → st S M (4 * (y / 4) + 1) = q ∧ st S M (4 * (y / 4) + 2) = p) := fun y hy e1 e2 => by
        have e3 := st_tn1 hs hy
        constructor
        · intro h0
          rw [if_pos h0] at e3
          exact ⟨by rw [← hs.st_even hy h0]; exact e1, by rw [← e3]; exact e2⟩
        · intro h0
          rw [if_neg (by omega)] at e3
          exact ⟨by rw [← hs.st_odd hy h0]; exact e1, by rw [← e3]; exact e2⟩
      refine Nat.le_antisymm ?_ ?_
      · refine cnt_inj (fun y => y / 4) (fun y hy h => ?_) (fun x y hx hy hpx hpy he => ?_)
        · obtain ⟨a1, a2, a3⟩ := hy1 y hy h
          refine ⟨by show y / 4 < S.length; omega, ?_⟩
          rw [decide_eq_true_eq]
          obtain ⟨b1, b2⟩ := hpar y hy a2 a3
          rcases Nat.mod_two_eq_zero_or_one y with h0 | h0
          · exact .inr (b1 h0)
          · exact .inl ⟨(b2 h0).2, (b2 h0).1⟩
        · obtain ⟨a1, a2, a3⟩ := hy1 x hx hpx
          obtain ⟨c1, c2, c3⟩ := hy1 y hy hpy
          obtain ⟨b1, b2⟩ := hpar x hx a2 a3
          obtain ⟨d1, d2⟩ := hpar y hy c2 c3
          have he : x / 4 = y / 4 := he
          rw [he] at b1 b2
          refine out_one hs hx he ?_ a1 c1
          rcases Nat.mod_two_eq_zero_or_one x with h0 | h0 <;> rcases Nat.mod_two_eq_zero_or_one y with h5 | h5
          · omega
          · exact absurd ((d2 h5).2.symm.trans (b1 h0).1) hpq
          · exact absurd ((b2 h0).2.symm.trans (d1 h5).1) hpq
          · omega
      · refine cnt_inj (fun c => if st S M (4 * c + 2) = q then 4 * c + 2 else oo S c) (fun c hc h => ?_) (fun c d hc hd hpc hpd he => ?_)
        · rw [decide_eq_true_eq] at h
          obtain ⟨o1, o2, o3, o4, o5⟩ := oo_spec hs hc
          show (if st S M (4 * c + 2) = q then 4 * c + 2 else oo S c) < _ ∧ _
          by_cases g : st S M (4 * c + 2) = q
          · rw [if_pos g]
            refine ⟨by omega, ?_⟩
            rw [← Shape.st_fl (outB_2 S _ (by omega)), st_tn1 hs (by omega), if_pos (by omega), show (4 * c + 2) / 4 = c from by omega, decide_eq_true g, Bool.true_and, decide_eq_true_eq]
            rcases h with h | h
            · exact absurd (h.1.symm.trans g) hpq
            · exact h.2
          · rw [if_neg g]
            refine ⟨o1, ?_⟩
            rw [← Shape.st_fl o4, st_tn1 hs o1, if_neg (by omega), o2, hs.st_odd o1 o3, o2]
            rcases h with h | h
            · rw [decide_eq_true h.1, decide_eq_true h.2]; rfl
            · exact absurd h.1 g
        · obtain ⟨o1, o2, _⟩ := oo_spec hs hc
          obtain ⟨p1, p2, _⟩ := oo_spec hs hd
          have he : (if st S M (4 * c + 2) = q then 4 * c + 2 else oo S c) = (if st S M (4 * d + 2) = q then 4 * d + 2 else oo S d) := he
          split at he <;> split at he <;> omega
    rw [← h4]
    exact h1
  · rw [cnt_none fun c hc => ?_]
    refine decide_eq_false fun h => hq ?_
    rcases h with h | h
    · rw [← h.2]; exact ⟨hs.st_lt (by omega), hs.st_out (by omega), hs.st_idem (by omega)⟩
    · rw [← h.1]; exact ⟨hs.st_lt (by omega), hs.st_out (by omega), hs.st_idem (by omega)⟩
end Go.Proofs.Ytkopbcehfbmnmaa
