/- Plain law: the strand of a half-edge; the owners of a crossing. -/
import Derived.Test.YtkopbcehfbmnmaaPlanar6
import Derived.Test.YtkopbcehfbmnmaaOwn0
namespace Go.Proofs.Ytkopbcehfbmnmaa
open Go Go.RowKit
/-- The outgoing end of x's edge. -/
def sg (S M : List Int) (x : Nat) : Nat := if outB S x = true then x else mt M x
/-- The strand of x, by its least half-edge. -/
def st (S M : List Int) (x : Nat) : Nat := fl (sc M) (perOf (sc M) (4 * S.length)) (sg S M x)
theorem tn_tn (x : Nat) (a b : Int) (ha : -4 ≤ a) (hb : -4 ≤ b) (hab : -8 ≤ a + b) : tn (tn x a) b = tn x (a + b) := by
  have h1 := tn_div x a
  have h2 := tn_mod x a
  unfold tn at *
  omega
theorem tn_zero (x : Nat) : tn x 0 = x := by unfold tn; omega
theorem tn_four (x : Nat) (a : Int) (ha : -4 ≤ a) : tn x (a + 4) = tn x a := by unfold tn; omega
theorem tn_22 (x : Nat) : tn (tn x 2) 2 = x := by rw [tn_tn x 2 2 (by omega) (by omega) (by omega)]; unfold tn; omega
namespace Shape
variable {S M : List Int} {L : Int} (hs : Shape S M L)
include hs
theorem out_tn2 (x : Nat) (hx : x < 4 * S.length) : outB S (tn x 2) = !(outB S x) := by
  have h3 := hs.sign (x / 4) (by omega)
  have h4 : tn x 2 / 4 = x / 4 := tn_div x 2
  have h5 : tn x 2 % 4 = (x % 4 + 2) % 4 := by rw [tn_mod]; omega
  unfold outB
  rw [h4, h5]
  have : x % 4 = 0 ∨ x % 4 = 1 ∨ x % 4 = 2 ∨ x % 4 = 3 := by omega
  rcases this with e | e | e | e <;> rcases h3 with g | g <;> simp [e, g]
theorem mt_lt {x : Nat} (hx : x < 4 * S.length) : mt M x < 4 * S.length := hs.toNat_lt x hx
theorem mt_mt {x : Nat} (hx : x < 4 * S.length) : mt M (mt M x) = x := hs.invol x hx
theorem out_mt {x : Nat} (hx : x < 4 * S.length) : outB S (mt M x) = !(outB S x) := by
  have := (hs.mate x hx).2.2.2.2
  unfold mt
  cases h : outB S x <;> cases g : outB S (nth M x).toNat <;> simp_all
theorem sg_lt {x : Nat} (hx : x < 4 * S.length) : sg S M x < 4 * S.length := by
  unfold sg; split
  · exact hx
  · exact hs.mt_lt hx
theorem sg_out {x : Nat} (hx : x < 4 * S.length) : outB S (sg S M x) = true := by
  unfold sg; split
  · assumption
  · rename_i h
    rw [hs.out_mt hx]
    simpa using h
omit hs in
theorem sg_of {x : Nat} (h : outB S x = true) : sg S M x = x := if_pos h
theorem perS : ∀ x, x < 4 * S.length → IsPer (sc M) x (perOf (sc M) (4 * S.length) x) := perOf_all hs.injS
theorem st_mt {x : Nat} (hx : x < 4 * S.length) : st S M (mt M x) = st S M x := by
  unfold st sg
  rw [hs.out_mt hx]
  cases h : outB S x
  · simp
  · simp [hs.mt_mt hx]
theorem st_step {x : Nat} (hx : x < 4 * S.length) (ho : outB S x = true) : st S M (sc M x) = st S M x := by
  have h1 : outB S (sc M x) = true := by rw [hs.outS x hx]; exact ho
  unfold st
  rw [sg_of h1, sg_of ho]
  exact fl_step hs.injS hs.perS hx
theorem st_tn2 {x : Nat} (hx : x < 4 * S.length) : st S M (tn x 2) = st S M x := by
  have key : ∀ y, y < 4 * S.length → outB S y = false → st S M (tn y 2) = st S M y := by
    intro y hy h
    have h1 : outB S (mt M y) = true := by rw [hs.out_mt hy, h]; rfl
    have h2 := hs.st_step (hs.mt_lt hy) h1
    have h3 : sc M (mt M y) = tn y 2 := by
      have h4 : sc M (mt M y) = tn (mt M (mt M y)) 2 := rfl
      rw [h4, hs.mt_mt hy]
    rw [h3, hs.st_mt hy] at h2
    exact h2
  cases h : outB S x
  · exact key x hx h
  · have h1 : outB S (tn x 2) = false := by rw [hs.out_tn2 x hx, h]; rfl
    have h2 := key _ (tn_lt x _ 2 hx) h1
    rw [tn_22] at h2
    exact h2.symm
theorem st_lt {x : Nat} (hx : x < 4 * S.length) : st S M x < 4 * S.length := fl_lt hs.injS hs.perS (hs.sg_lt hx)
theorem out_orb {x y : Nat} (hx : x < 4 * S.length) (ho : OnOrb (sc M) x y) : outB S y = outB S x := by
  obtain ⟨k, rfl⟩ := ho
  induction k with
  | zero => rfl
  | succ k ih => rw [iter_succ, hs.outS _ (iter_lt (sc M) _ hs.injS.lt k x hx), ih]
theorem st_out {x : Nat} (hx : x < 4 * S.length) : outB S (st S M x) = true := by
  unfold st
  rw [hs.out_orb (hs.sg_lt hx) (fl_spec hs.perS (hs.sg_lt hx)).1]
  exact hs.sg_out hx
theorem st_idem {x : Nat} (hx : x < 4 * S.length) : st S M (st S M x) = st S M x := by
  have h := hs.st_out hx
  have h2 : st S M (st S M x) = fl (sc M) (perOf (sc M) (4 * S.length)) (st S M x) := by
    rw [st, sg_of h]
  rw [h2]
  exact fl_idem hs.injS hs.perS (hs.sg_lt hx)
omit hs in
theorem st_fl {x : Nat} (h : outB S x = true) : st S M x = fl (sc M) (perOf (sc M) (4 * S.length)) x := by rw [st, sg_of h]
/-- The strand by the slot's parity. -/
theorem st_even {x : Nat} (hx : x < 4 * S.length) (h : x % 2 = 0) : st S M x = st S M (4 * (x / 4) + 2) := by
  rcases (show x % 4 = 0 ∨ x % 4 = 2 from by omega) with e | e
  · have h1 := hs.st_tn2 hx
    rw [show tn x 2 = 4 * (x / 4) + 2 from by unfold tn; omega] at h1
    exact h1.symm
  · rw [show 4 * (x / 4) + 2 = x from by omega]
theorem st_odd {x : Nat} (hx : x < 4 * S.length) (h : x % 2 = 1) : st S M x = st S M (4 * (x / 4) + 1) := by
  rcases (show x % 4 = 1 ∨ x % 4 = 3 from by omega) with e | e
  · rw [show 4 * (x / 4) + 1 = x from by omega]
  · have h1 := hs.st_tn2 hx
    rw [show tn x 2 = 4 * (x / 4) + 1 from by unfold tn; omega] at h1
    exact h1.symm
end Shape
/-- The strands' least half-edges. -/
def leasts (S M : List Int) : List Nat := (List.range (4 * S.length)).filter fun h => outB S h && leastB (sc M) (perOf (sc M) (4 * S.length)) h
/-- The number of x's strand. -/
def ix (S M : List Int) (x : Nat) : Nat := (leasts S M).idxOf (st S M x)
theorem leasts_nodup (S M : List Int) : (leasts S M).Nodup := List.Nodup.sublist List.filter_sublist List.nodup_range
theorem strandsL_leasts {S M : List Int} {L : Int} (hv : vldB S M L = true) : strandsL S M L = (leasts S M).map fun h => orb (sc M) h (perOf (sc M) (4 * S.length) h) := strandsL_eq hv
theorem mem_leasts {S M : List Int} {L : Int} (hs : Shape S M L) {x : Nat} : x ∈ leasts S M ↔ x < 4 * S.length ∧ outB S x = true ∧ st S M x = x := by
  unfold leasts
  rw [List.mem_filter, List.mem_range, Bool.and_eq_true]
  constructor
  · rintro ⟨h1, h2, h3⟩
    refine ⟨h1, h2, ?_⟩
    rw [Shape.st_fl h2]
    exact (fl_least hs.injS hs.perS h1).1 h3
  · rintro ⟨h1, h2, h3⟩
    refine ⟨h1, h2, (fl_least hs.injS hs.perS h1).2 ?_⟩
    rw [Shape.st_fl h2] at h3
    exact h3
theorem st_mem {S M : List Int} {L : Int} (hs : Shape S M L) {x : Nat} (hx : x < 4 * S.length) : st S M x ∈ leasts S M := (mem_leasts hs).2 ⟨hs.st_lt hx, hs.st_out hx, hs.st_idem hx⟩
theorem ix_lt {S M : List Int} {L : Int} (hs : Shape S M L) {x : Nat} (hx : x < 4 * S.length) : ix S M x < (leasts S M).length := List.idxOf_lt_length_iff.2 (st_mem hs hx)
theorem ix_get {S M : List Int} {L : Int} (hs : Shape S M L) {x : Nat} (hx : x < 4 * S.length) : (leasts S M)[ix S M x]? = some (st S M x) := by
  have h := ix_lt hs hx
  rw [List.getElem?_eq_getElem h]
  exact congrArg some (List.getElem_idxOf (xs := leasts S M) (x := st S M x) h)
theorem ix_iff {S M : List Int} {L : Int} (hs : Shape S M L) {x k : Nat} (hx : x < 4 * S.length) : ix S M x = k ↔ (leasts S M)[k]? = some (st S M x) := by
  constructor
  · rintro rfl; exact ix_get hs hx
  · intro h
    exact (List.getElem?_inj (ix_lt hs hx) (leasts_nodup S M)).1 ((ix_get hs hx).trans h.symm)
theorem ix_eq {S M : List Int} {L : Int} (hs : Shape S M L) {x y : Nat} (hx : x < 4 * S.length) (hy : y < 4 * S.length) : ix S M x = ix S M y ↔ st S M x = st S M y := by
  constructor
  · intro h
    have h1 := ix_get hs hx
    have h2 := ix_get hs hy
    rw [h, h2] at h1
    simpa using h1.symm
  · intro h; unfold ix; rw [h]
/-- What lies on a strand. -/
theorem mem_strand {S M : List Int} {L : Int} (hs : Shape S M L) {x r : Nat} (hr : r ∈ leasts S M) : x ∈ orb (sc M) r (perOf (sc M) (4 * S.length) r) ↔ x < 4 * S.length ∧ outB S x = true ∧ st S M x = r := by
  obtain ⟨h1, h2, h3⟩ := (mem_leasts hs).1 hr
  rw [mem_orb (hs.perS r h1)]
  constructor
  · intro h
    have hx := onOrb_lt hs.injS h1 h
    have ho : outB S x = true := by rw [hs.out_orb h1 h]; exact h2
    refine ⟨hx, ho, ?_⟩
    rw [Shape.st_fl ho, fl_eq hs.injS hs.perS h1 h, ← Shape.st_fl h2, h3]
  · rintro ⟨hx, ho, he⟩
    rw [Shape.st_fl ho] at he
    have := (fl_spec hs.perS hx).1
    rw [he] at this
    exact onOrb_symm hs.injS hx this
theorem own1_at' (k : Nat) (f : Nat → Int × Int) (x c : Nat) : own1 k f x c = if x / 4 = c then (if x % 2 = 0 then ((k : Int), (f c).2) else ((f c).1, (k : Int))) else f c := by
  unfold own1 upd
  by_cases h : x / 4 = c
  · rw [if_pos h.symm, if_pos h, h]
  · rw [if_neg (fun e => h e.symm), if_neg h]
theorem own_fold1 (k c : Nat) : ∀ (l : List Nat) (f : Nat → Int × Int), (l.foldl (own1 k) f c).1 = if (l.any fun h => decide (h / 4 = c ∧ h % 2 = 0)) = true then (k : Int) else (f c).1
  | [], f => by simp
  | a :: l, f => by
    rw [List.foldl_cons, own_fold1 k c l, own1_at', List.any_cons]
    by_cases h1 : a / 4 = c
    · by_cases h2 : a % 2 = 0
      · rw [decide_eq_true ⟨h1, h2⟩, Bool.true_or, if_pos h1, if_pos h2]; simp
      · rw [decide_eq_false (fun h => h2 h.2), Bool.false_or, if_pos h1, if_neg h2]
    · rw [decide_eq_false (fun h => h1 h.1), Bool.false_or, if_neg h1]
theorem own_fold2 (k c : Nat) : ∀ (l : List Nat) (f : Nat → Int × Int), (l.foldl (own1 k) f c).2 = if (l.any fun h => decide (h / 4 = c ∧ h % 2 = 1)) = true then (k : Int) else (f c).2
  | [], f => by simp
  | a :: l, f => by
    rw [List.foldl_cons, own_fold2 k c l, own1_at', List.any_cons]
    by_cases h1 : a / 4 = c
    · by_cases h2 : a % 2 = 0
      · rw [decide_eq_false (fun h => by omega), Bool.false_or, if_pos h1, if_pos h2]
      · rw [decide_eq_true ⟨h1, by omega⟩, Bool.true_or, if_pos h1, if_neg h2]; simp
    · rw [decide_eq_false (fun h => h1 h.1), Bool.false_or, if_neg h1]
theorem any_pass {S M : List Int} {L : Int} (hs : Shape S M L) {c r p : Nat} (hc : c < S.length) (hr : r ∈ leasts S M) (hp : p = 0 ∨ p = 1) :
    ((orb (sc M) r (perOf (sc M) (4 * S.length) r)).any fun h => decide (h / 4 = c ∧ h % 2 = p)) = true ↔ st S M (4 * c + 2 - p) = r := by
  rw [List.any_eq_true]
  constructor
  · rintro ⟨x, hx, hd⟩
    rw [mem_strand hs hr] at hx
    rw [decide_eq_true_eq] at hd
    obtain ⟨h1, h2⟩ := hd
    rcases hp with rfl | rfl
    · rw [← hx.2.2, hs.st_even hx.1 h2, h1]
      rfl
    · rw [← hx.2.2, hs.st_odd hx.1 h2, h1]
      rfl
  · intro h
    -- the outgoing half-edge of the passage
    have key : ∃ y, y < 4 * S.length ∧ outB S y = true ∧ y / 4 = c ∧ y % 2 = p := by
      rcases hp with rfl | rfl
      · exact ⟨4 * c + 2, by omega, outB_2 S _ (by omega), by omega, by omega⟩
      · rcases hs.sign c hc with g | g
        · exact ⟨4 * c + 1, by omega, by rw [outB_1 S _ (by omega), show (4 * c + 1) / 4 = c from by omega, g]; rfl, by omega, by omega⟩
        · exact ⟨4 * c + 3, by omega, by rw [outB_3 S _ (by omega), show (4 * c + 3) / 4 = c from by omega, g]; rfl, by omega, by omega⟩
    obtain ⟨y, h1, h2, h3, h4⟩ := key
    refine ⟨y, (mem_strand hs hr).2 ⟨h1, h2, ?_⟩, decide_eq_true ⟨h3, h4⟩⟩
    rw [← h]
    rcases hp with rfl | rfl
    · rw [hs.st_even h1 h4, h3]; rfl
    · rw [hs.st_odd h1 h4, h3]; rfl
/-- The owners: by the strands of the passages. -/
theorem ownF_eq {S M : List Int} {L : Int} (hv : vldB S M L = true) (c : Nat) (hc : c < S.length) : ownF (strandsL S M L) c = ((ix S M (4 * c + 2) : Int), (ix S M (4 * c + 1) : Int)) := by
  have hs := vldB_shape hv
  have hlen : (strandsL S M L).length = (leasts S M).length := by rw [strandsL_leasts hv, List.length_map]
  have key : ∀ k, k ≤ (leasts S M).length → (ownTo (strandsL S M L) k c).1 = (if ix S M (4 * c + 2) < k then (ix S M (4 * c + 2) : Int) else 0) ∧ (ownTo (strandsL S M L) k c).2 = (if ix S M (4 * c + 1) < k then (ix S M (4 * c + 1) : Int) else 0) := by
    intro k
    induction k with
    | zero => intro _; simp [ownTo]
    | succ k ih =>
      intro hk
      obtain ⟨i1, i2⟩ := ih (by omega)
      obtain ⟨r, hr⟩ : ∃ r, (leasts S M)[k]? = some r := ⟨_, List.getElem?_eq_getElem (by omega)⟩
      have hm := List.mem_of_getElem? hr
      have hl : (strandsL S M L).getD k [] = orb (sc M) r (perOf (sc M) (4 * S.length) r) := by
        rw [strandsL_leasts hv, List.getD_eq_getElem?_getD, List.getElem?_map, hr]; rfl
      rw [ownTo, hl]
      constructor
      · rw [own_fold1, i1]
        have h := any_pass hs hc hm (p := 0) (.inl rfl)
        have e := ix_iff hs (x := 4 * c + 2) (k := k) (by omega)
        rw [hr] at e
        by_cases g : st S M (4 * c + 2) = r
        · have : ix S M (4 * c + 2) = k := e.2 (by rw [g])
          rw [if_pos (h.2 g), if_pos (by omega), this]
        · have : ix S M (4 * c + 2) ≠ k := fun e2 => g (by simpa using (e.1 e2).symm)
          rw [if_neg (fun e2 => g (h.1 e2))]
          by_cases g2 : ix S M (4 * c + 2) < k
          · rw [if_pos g2, if_pos (by omega)]
          · rw [if_neg g2, if_neg (by omega)]
      · rw [own_fold2, i2]
        have h := any_pass hs hc hm (p := 1) (.inr rfl)
        have e := ix_iff hs (x := 4 * c + 1) (k := k) (by omega)
        rw [hr] at e
        have h := (show ((orb (sc M) r (perOf (sc M) (4 * S.length) r)).any fun h => decide (h / 4 = c ∧ h % 2 = 1)) = true ↔ st S M (4 * c + 1) = r from h)
        by_cases g : st S M (4 * c + 1) = r
        · have : ix S M (4 * c + 1) = k := e.2 (by rw [g])
          rw [if_pos (h.2 g), if_pos (by omega), this]
        · have : ix S M (4 * c + 1) ≠ k := fun e2 => g (by simpa using (e.1 e2).symm)
          rw [if_neg (fun e2 => g (h.1 e2))]
          by_cases g2 : ix S M (4 * c + 1) < k
          · rw [if_pos g2, if_pos (by omega)]
          · rw [if_neg g2, if_neg (by omega)]
  obtain ⟨k1, k2⟩ := key _ (Nat.le_refl _)
  have a1 := ix_lt hs (x := 4 * c + 2) (by omega)
  have a2 := ix_lt hs (x := 4 * c + 1) (by omega)
  rw [if_pos a1] at k1
  rw [if_pos a2] at k2
  unfold ownF
  rw [hlen, ← k1, ← k2]
end Go.Proofs.Ytkopbcehfbmnmaa
