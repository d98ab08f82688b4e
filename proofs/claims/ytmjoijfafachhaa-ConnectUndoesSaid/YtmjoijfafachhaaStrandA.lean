/- Plain laws: strands of half-edges; owners; the crossings of two strands are even in number; renamings of half-edges; what mirror.move computes. -/
import Derived.Test.YtmjoijfafachhaaStrandsW
import Derived.Test.YtmjoijfafachhaaPlainA
import Derived.Test.YtmjoijfafachhaaPlanarA
namespace Go.Proofs.Ytmjoijfafachhaa
open Go Go.RowKit
/-! ### Plain law: which strand passes a crossing under, and which one over. -/
/-- f, turned at k. -/
def upd (f : Nat → Int × Int) (k : Nat) (p : Int × Int) : Nat → Int × Int := fun i => if i = k then p else f i
/-- What the half-edge h of strand k turns. -/
def own1 (k : Nat) (f : Nat → Int × Int) (h : Nat) : Nat → Int × Int := upd f (h / 4) (if h % 2 = 0 then ((k : Int), (f (h / 4)).2) else ((f (h / 4)).1, (k : Int)))
/-- .. the strands below k. -/
def ownTo (ls : List (List Nat)) : Nat → Nat → Int × Int
  | 0 => fun _ => (0, 0)
  | k + 1 => (ls.getD k []).foldl (own1 k) (ownTo ls k)
/-- .. all. -/
def ownF (ls : List (List Nat)) : Nat → Int × Int := ownTo ls ls.length
theorem own_take (k : Nat) (f : Nat → Int × Int) (l : List Nat) (j : Nat) (x : Nat) (hx : l[j]? = some x) : (l.take (j + 1)).foldl (own1 k) f = own1 k ((l.take j).foldl (own1 k) f) x := by
  rw [List.take_add_one, hx, List.foldl_append]; rfl
/-- The lists of a diagram of at most 64 crossings. -/
structure Lists (ls : List (List Nat)) (n : Nat) : Prop where
  few : ls.length ≤ 4 * n
  len : ∀ (k : Nat) (l : List Nat), ls[k]? = some l → l.length ≤ 4 * n
  lt : ∀ (k : Nat) (l : List Nat) (j x : Nat), ls[k]? = some l → l[j]? = some x → x < 4 * n
theorem Shape.outS {S M : List Int} {L : Int} (hs : Shape S M L) (h : Nat) (hh : h < 4 * S.length) : outB S (sc M h) = outB S h := by
  have h1 := (hs.mate h hh).2.2.2.2
  have h2 := hs.toNat_lt h hh
  have h3 := hs.sign ((nth M h).toNat / 4) (by omega)
  unfold sc
  generalize (nth M h).toNat = m at *
  have h4 : tn m 2 / 4 = m / 4 := tn_div m 2
  have h5 : tn m 2 % 4 = (m % 4 + 2) % 4 := by rw [tn_mod]; omega
  have h6 : outB S (tn m 2) = !(outB S m) := by
    unfold outB
    rw [h4, h5]
    have : m % 4 = 0 ∨ m % 4 = 1 ∨ m % 4 = 2 ∨ m % 4 = 3 := by omega
    rcases this with e | e | e | e <;> rcases h3 with g | g <;> simp [e, g]
  rw [h6]
  cases hx : outB S h <;> cases hy : outB S m <;> simp_all
theorem strandsL_eq {S M : List Int} {L : Int} (hv : vldB S M L = true) : strandsL S M L = clTo (sc M) (perOf (sc M) (4 * S.length)) (outB S) (4 * S.length) := by
  have hs := vldB_shape hv
  unfold strandsL
  rw [if_pos hv]
  exact cycs_eq hs.injS (perOf_all hs.injS) (outB S) fun x hx => hs.outS x hx
theorem clTo_lists {f : Nat → Nat} {wb : Nat → Bool} {n : Nat} (hf : Inj f (4 * n)) : Lists (clTo f (perOf f (4 * n)) wb (4 * n)) n := by
  refine ⟨clTo_len _ _ _ _, fun k l hl => ?_, fun k l j x hl hx => ?_⟩
  · have hm := List.mem_of_getElem? hl
    unfold clTo at hm
    simp only [List.mem_map, List.mem_filter, List.mem_range] at hm
    obtain ⟨y, ⟨hy, _⟩, rfl⟩ := hm
    rw [orb_length]
    exact perOf_le f (4 * n) y (by omega)
  · have hm := List.mem_of_getElem? hl
    unfold clTo at hm
    simp only [List.mem_map, List.mem_filter, List.mem_range] at hm
    obtain ⟨y, ⟨hy, _⟩, rfl⟩ := hm
    have := List.mem_of_getElem? hx
    rw [mem_orb (perOf_spec hf y hy)] at this
    exact onOrb_lt hf hy this
theorem strandsL_lists {S M : List Int} {L : Int} (hv : vldB S M L = true) : Lists (strandsL S M L) S.length := by
  rw [strandsL_eq hv]
  exact clTo_lists (vldB_shape hv).injS
/-- The sum of the signs of the first k crossings that are kept. -/
def sumTo (S : List Int) (f : Nat → Int × Int) (keep : Int → Int → Bool) : Nat → Int
  | 0 => 0
  | k + 1 => if keep (f k).1 (f k).2 = true then sumTo S f keep k + nth S k else sumTo S f keep k
theorem sumTo_bd (S : List Int) (f : Nat → Int × Int) (keep : Int → Int → Bool) (hS : ∀ c, -1 ≤ nth S c ∧ nth S c ≤ 1) (k : Nat) : -(k : Int) ≤ sumTo S f keep k ∧ sumTo S f keep k ≤ k := by
  induction k with
  | zero => simp [sumTo]
  | succ k ih =>
    have := hS k
    rw [sumTo]
    split <;> omega
/-! ### Plain law: the strand of a half-edge; the owners of a crossing. -/
/-- The outgoing end of x's edge. -/
def sg (S M : List Int) (x : Nat) : Nat := if outB S x = true then x else mt M x
/-- The strand of x, by its least half-edge. -/
def st (S M : List Int) (x : Nat) : Nat := fl (sc M) (perOf (sc M) (4 * S.length)) (sg S M x)
theorem tn_tn (x : Nat) (a b : Int) (ha : -4 ≤ a) (hb : -4 ≤ b) (hab : -8 ≤ a + b) : tn (tn x a) b = tn x (a + b) := by
  have h1 := tn_div x a
  have h2 := tn_mod x a
  unfold tn at *
  omega
theorem tn_zero (x : Nat) : tn x 0 = x := by unfold tn; omega
theorem tn_four (x : Nat) (a : Int) (ha : -4 ≤ a) : tn x (a + 4) = tn x a := by unfold tn; omega
theorem tn_22 (x : Nat) : tn (tn x 2) 2 = x := by rw [tn_tn x 2 2 (by omega) (by omega) (by omega)]; unfold tn; omega
namespace Shape
variable {S M : List Int} {L : Int} (hs : Shape S M L)
include hs
theorem out_tn2 (x : Nat) (hx : x < 4 * S.length) : outB S (tn x 2) = !(outB S x) := by
  have h3 := hs.sign (x / 4) (by omega)
  have h4 : tn x 2 / 4 = x / 4 := tn_div x 2
  have h5 : tn x 2 % 4 = (x % 4 + 2) % 4 := by rw [tn_mod]; omega
  unfold outB
  rw [h4, h5]
  have : x % 4 = 0 ∨ x % 4 = 1 ∨ x % 4 = 2 ∨ x % 4 = 3 := by omega
  rcases this with e | e | e | e <;> rcases h3 with g | g <;> simp [e, g]
theorem mt_lt {x : Nat} (hx : x < 4 * S.length) : mt M x < 4 * S.length := hs.toNat_lt x hx
theorem mt_mt {x : Nat} (hx : x < 4 * S.length) : mt M (mt M x) = x := hs.invol x hx
theorem out_mt {x : Nat} (hx : x < 4 * S.length) : outB S (mt M x) = !(outB S x) := by
  have := (hs.mate x hx).2.2.2.2
  unfold mt
  cases h : outB S x <;> cases g : outB S (nth M x).toNat <;> simp_all
theorem sg_lt {x : Nat} (hx : x < 4 * S.length) : sg S M x < 4 * S.length := by
  unfold sg; split
  · exact hx
  · exact hs.mt_lt hx
theorem sg_out {x : Nat} (hx : x < 4 * S.length) : outB S (sg S M x) = true := by
  unfold sg; split
  · assumption
  · rename_i h
    rw [hs.out_mt hx]
    simpa using h
omit hs in
theorem sg_of {x : Nat} (h : outB S x = true) : sg S M x = x := if_pos h
theorem perS : ∀ x, x < 4 * S.length → IsPer (sc M) x (perOf (sc M) (4 * S.length) x) := perOf_all hs.injS
theorem st_mt {x : Nat} (hx : x < 4 * S.length) : st S M (mt M x) = st S M x := by
  unfold st sg
  rw [hs.out_mt hx]
  cases h : outB S x
  · simp
  · simp [hs.mt_mt hx]
theorem st_step {x : Nat} (hx : x < 4 * S.length) (ho : outB S x = true) : st S M (sc M x) = st S M x := by
  have h1 : outB S (sc M x) = true := by rw [hs.outS x hx]; exact ho
  unfold st
  rw [sg_of h1, sg_of ho]
  exact fl_step hs.injS hs.perS hx
theorem st_tn2 {x : Nat} (hx : x < 4 * S.length) : st S M (tn x 2) = st S M x := by
  have key : ∀ y, y < 4 * S.length → outB S y = false → st S M (tn y 2) = st S M y := by
    intro y hy h
    have h1 : outB S (mt M y) = true := by rw [hs.out_mt hy, h]; rfl
    have h2 := hs.st_step (hs.mt_lt hy) h1
    have h3 : sc M (mt M y) = tn y 2 := by
      have h4 : sc M (mt M y) = tn (mt M (mt M y)) 2 := rfl
      rw [h4, hs.mt_mt hy]
    rw [h3, hs.st_mt hy] at h2
    exact h2
  cases h : outB S x
  · exact key x hx h
  · have h1 : outB S (tn x 2) = false := by rw [hs.out_tn2 x hx, h]; rfl
    have h2 := key _ (tn_lt x _ 2 hx) h1
    rw [tn_22] at h2
    exact h2.symm
theorem st_lt {x : Nat} (hx : x < 4 * S.length) : st S M x < 4 * S.length := fl_lt hs.injS hs.perS (hs.sg_lt hx)
theorem out_orb {x y : Nat} (hx : x < 4 * S.length) (ho : OnOrb (sc M) x y) : outB S y = outB S x := by
  obtain ⟨k, rfl⟩ := ho
  induction k with
  | zero => rfl
  | succ k ih => rw [iter_succ, hs.outS _ (iter_lt (sc M) _ hs.injS.lt k x hx), ih]
theorem st_out {x : Nat} (hx : x < 4 * S.length) : outB S (st S M x) = true := by
  unfold st
  rw [hs.out_orb (hs.sg_lt hx) (fl_spec hs.perS (hs.sg_lt hx)).1]
  exact hs.sg_out hx
theorem st_idem {x : Nat} (hx : x < 4 * S.length) : st S M (st S M x) = st S M x := by
  have h := hs.st_out hx
  have h2 : st S M (st S M x) = fl (sc M) (perOf (sc M) (4 * S.length)) (st S M x) := by
    rw [st, sg_of h]
  rw [h2]
  exact fl_idem hs.injS hs.perS (hs.sg_lt hx)
omit hs in
theorem st_fl {x : Nat} (h : outB S x = true) : st S M x = fl (sc M) (perOf (sc M) (4 * S.length)) x := by rw [st, sg_of h]
/-- The strand by the slot's parity. -/
theorem st_even {x : Nat} (hx : x < 4 * S.length) (h : x % 2 = 0) : st S M x = st S M (4 * (x / 4) + 2) := by
  rcases (show x % 4 = 0 ∨ x % 4 = 2 from by omega) with e | e
  · have h1 := hs.st_tn2 hx
    rw [show tn x 2 = 4 * (x / 4) + 2 from by unfold tn; omega] at h1
    exact h1.symm
  · rw [show 4 * (x / 4) + 2 = x from by omega]
theorem st_odd {x : Nat} (hx : x < 4 * S.length) (h : x % 2 = 1) : st S M x = st S M (4 * (x / 4) + 1) := by
  rcases (show x % 4 = 1 ∨ x % 4 = 3 from by omega) with e | e
  · rw [show 4 * (x / 4) + 1 = x from by omega]
  · have h1 := hs.st_tn2 hx
    rw [show tn x 2 = 4 * (x / 4) + 1 from by unfold tn; omega] at h1
    exact h1.symm
end Shape
/-- The strands' least half-edges. -/
def leasts (S M : List Int) : List Nat := (List.range (4 * S.length)).filter fun h => outB S h && leastB (sc M) (perOf (sc M) (4 * S.length)) h
/-- The number of x's strand. -/
def ix (S M : List Int) (x : Nat) : Nat := (leasts S M).idxOf (st S M x)
theorem leasts_nodup (S M : List Int) : (leasts S M).Nodup := List.Nodup.sublist List.filter_sublist List.nodup_range
theorem strandsL_leasts {S M : List Int} {L : Int} (hv : vldB S M L = true) : strandsL S M L = (leasts S M).map fun h => orb (sc M) h (perOf (sc M) (4 * S.length) h) := strandsL_eq hv
theorem mem_leasts {S M : List Int} {L : Int} (hs : Shape S M L) {x : Nat} : x ∈ leasts S M ↔ x < 4 * S.length ∧ outB S x = true ∧ st S M x = x := by
  unfold leasts
  rw [List.mem_filter, List.mem_range, Bool.and_eq_true]
  constructor
  · rintro ⟨h1, h2, h3⟩
    refine ⟨h1, h2, ?_⟩
    rw [Shape.st_fl h2]
    exact (fl_least hs.injS hs.perS h1).1 h3
  · rintro ⟨h1, h2, h3⟩
    refine ⟨h1, h2, (fl_least hs.injS hs.perS h1).2 ?_⟩
    rw [Shape.st_fl h2] at h3
    exact h3
theorem st_mem {S M : List Int} {L : Int} (hs : Shape S M L) {x : Nat} (hx : x < 4 * S.length) : st S M x ∈ leasts S M := (mem_leasts hs).2 ⟨hs.st_lt hx, hs.st_out hx, hs.st_idem hx⟩
theorem ix_lt {S M : List Int} {L : Int} (hs : Shape S M L) {x : Nat} (hx : x < 4 * S.length) : ix S M x < (leasts S M).length := List.idxOf_lt_length_iff.2 (st_mem hs hx)
theorem ix_get {S M : List Int} {L : Int} (hs : Shape S M L) {x : Nat} (hx : x < 4 * S.length) : (leasts S M)[ix S M x]? = some (st S M x) := by
  have h := ix_lt hs hx
  rw [List.getElem?_eq_getElem h]
  exact congrArg some (List.getElem_idxOf (xs := leasts S M) (x := st S M x) h)
theorem ix_iff {S M : List Int} {L : Int} (hs : Shape S M L) {x k : Nat} (hx : x < 4 * S.length) : ix S M x = k ↔ (leasts S M)[k]? = some (st S M x) := by
  constructor
  · rintro rfl; exact ix_get hs hx
  · intro h
    exact (List.getElem?_inj (ix_lt hs hx) (leasts_nodup S M)).1 ((ix_get hs hx).trans h.symm)
theorem ix_eq {S M : List Int} {L : Int} (hs : Shape S M L) {x y : Nat} (hx : x < 4 * S.length) (hy : y < 4 * S.length) : ix S M x = ix S M y ↔ st S M x = st S M y := by
  constructor
  · intro h
    have h1 := ix_get hs hx
    have h2 := ix_get hs hy
    rw [h, h2] at h1
    simpa using h1.symm
  · intro h; unfold ix; rw [h]
/-- What lies on a strand. -/
theorem mem_strand {S M : List Int} {L : Int} (hs : Shape S M L) {x r : Nat} (hr : r ∈ leasts S M) : x ∈ orb (sc M) r (perOf (sc M) (4 * S.length) r) ↔ x < 4 * S.length ∧ outB S x = true ∧ st S M x = r := by
  obtain ⟨h1, h2, h3⟩ := (mem_leasts hs).1 hr
  rw [mem_orb (hs.perS r h1)]
  constructor
  · intro h
    have hx := onOrb_lt hs.injS h1 h
    have ho : outB S x = true := by rw [hs.out_orb h1 h]; exact h2
    refine ⟨hx, ho, ?_⟩
    rw [Shape.st_fl ho, fl_eq hs.injS hs.perS h1 h, ← Shape.st_fl h2, h3]
  · rintro ⟨hx, ho, he⟩
    rw [Shape.st_fl ho] at he
    have := (fl_spec hs.perS hx).1
    rw [he] at this
    exact onOrb_symm hs.injS hx this
theorem own1_at' (k : Nat) (f : Nat → Int × Int) (x c : Nat) : own1 k f x c = if x / 4 = c then (if x % 2 = 0 then ((k : Int), (f c).2) else ((f c).1, (k : Int))) else f c := by
  unfold own1 upd
  by_cases h : x / 4 = c
  · rw [if_pos h.symm, if_pos h, h]
  · rw [if_neg (fun e => h e.symm), if_neg h]
theorem own_fold1 (k c : Nat) : ∀ (l : List Nat) (f : Nat → Int × Int), (l.foldl (own1 k) f c).1 = if (l.any fun h => decide (h / 4 = c ∧ h % 2 = 0)) = true then (k : Int) else (f c).1
  | [], f => by simp
  | a :: l, f => by
    rw [List.foldl_cons, own_fold1 k c l, own1_at', List.any_cons]
    by_cases h1 : a / 4 = c
    · by_cases h2 : a % 2 = 0
      · rw [decide_eq_true ⟨h1, h2⟩, Bool.true_or, if_pos h1, if_pos h2]; simp
      · rw [decide_eq_false (fun h => h2 h.2), Bool.false_or, if_pos h1, if_neg h2]
    · rw [decide_eq_false (fun h => h1 h.1), Bool.false_or, if_neg h1]
theorem own_fold2 (k c : Nat) : ∀ (l : List Nat) (f : Nat → Int × Int), (l.foldl (own1 k) f c).2 = if (l.any fun h => decide (h / 4 = c ∧ h % 2 = 1)) = true then (k : Int) else (f c).2
  | [], f => by simp
  | a :: l, f => by
    rw [List.foldl_cons, own_fold2 k c l, own1_at', List.any_cons]
    by_cases h1 : a / 4 = c
    · by_cases h2 : a % 2 = 0
      · rw [decide_eq_false (fun h => by omega), Bool.false_or, if_pos h1, if_pos h2]
      · rw [decide_eq_true ⟨h1, by omega⟩, Bool.true_or, if_pos h1, if_neg h2]; simp
    · rw [decide_eq_false (fun h => h1 h.1), Bool.false_or, if_neg h1]
theorem any_pass {S M : List Int} {L : Int} (hs : Shape S M L) {c r p : Nat} (hc : c < S.length) (hr : r ∈ leasts S M) (hp : p = 0 ∨ p = 1) :
    ((orb (sc M) r (perOf (sc M) (4 * S.length) r)).any fun h => decide (h / 4 = c ∧ h % 2 = p)) = true ↔ st S M (4 * c + 2 - p) = r := by
  rw [List.any_eq_true]
  constructor
  · rintro ⟨x, hx, hd⟩
    rw [mem_strand hs hr] at hx
    rw [decide_eq_true_eq] at hd
    obtain ⟨h1, h2⟩ := hd
    rcases hp with rfl | rfl
    · rw [← hx.2.2, hs.st_even hx.1 h2, h1]
      rfl
    · rw [← hx.2.2, hs.st_odd hx.1 h2, h1]
      rfl
  · intro h
    -- the outgoing half-edge of the passage
    have key : ∃ y, y < 4 * S.length ∧ outB S y = true ∧ y / 4 = c ∧ y % 2 = p := by
      rcases hp with rfl | rfl
      · exact ⟨4 * c + 2, by omega, outB_2 S _ (by omega), by omega, by omega⟩
      · rcases hs.sign c hc with g | g
        · exact ⟨4 * c + 1, by omega, by rw [outB_1 S _ (by omega), show (4 * c + 1) / 4 = c from by omega, g]; rfl, by omega, by omega⟩
        · exact ⟨4 * c + 3, by omega, by rw [outB_3 S _ (by omega), show (4 * c + 3) / 4 = c from by omega, g]; rfl, by omega, by omega⟩
    obtain ⟨y, h1, h2, h3, h4⟩ := key
    refine ⟨y, (mem_strand hs hr).2 ⟨h1, h2, ?_⟩, decide_eq_true ⟨h3, h4⟩⟩
    rw [← h]
    rcases hp with rfl | rfl
    · rw [hs.st_even h1 h4, h3]; rfl
    · rw [hs.st_odd h1 h4, h3]; rfl
/-- The owners: by the strands of the passages. -/
theorem ownF_eq {S M : List Int} {L : Int} (hv : vldB S M L = true) (c : Nat) (hc : c < S.length) : ownF (strandsL S M L) c = ((ix S M (4 * c + 2) : Int), (ix S M (4 * c + 1) : Int)) := by
  have hs := vldB_shape hv
  have hlen : (strandsL S M L).length = (leasts S M).length := by rw [strandsL_leasts hv, List.length_map]
  have key : ∀ k, k ≤ (leasts S M).length → (ownTo (strandsL S M L) k c).1 = (if ix S M (4 * c + 2) < k then (ix S M (4 * c + 2) : Int) else 0) ∧ (ownTo (strandsL S M L) k c).2 = (if ix S M (4 * c + 1) < k then (ix S M (4 * c + 1) : Int) else 0) := by
    intro k
    induction k with
    | zero => intro _; simp [ownTo]
    | succ k ih =>
      intro hk
      obtain ⟨i1, i2⟩ := ih (by omega)
      obtain ⟨r, hr⟩ : ∃ r, (leasts S M)[k]? = some r := ⟨_, List.getElem?_eq_getElem (by omega)⟩
      have hm := List.mem_of_getElem? hr
      have hl : (strandsL S M L).getD k [] = orb (sc M) r (perOf (sc M) (4 * S.length) r) := by
        rw [strandsL_leasts hv, List.getD_eq_getElem?_getD, List.getElem?_map, hr]; rfl
      rw [ownTo, hl]
      constructor
      · rw [own_fold1, i1]
        have h := any_pass hs hc hm (p := 0) (.inl rfl)
        have e := ix_iff hs (x := 4 * c + 2) (k := k) (by omega)
        rw [hr] at e
        by_cases g : st S M (4 * c + 2) = r
        · have : ix S M (4 * c + 2) = k := e.2 (by rw [g])
          rw [if_pos (h.2 g), if_pos (by omega), this]
        · have : ix S M (4 * c + 2) ≠ k := fun e2 => g (by simpa using (e.1 e2).symm)
          rw [if_neg (fun e2 => g (h.1 e2))]
          by_cases g2 : ix S M (4 * c + 2) < k
          · rw [if_pos g2, if_pos (by omega)]
          · rw [if_neg g2, if_neg (by omega)]
      · rw [own_fold2, i2]
        have h := any_pass hs hc hm (p := 1) (.inr rfl)
        have e := ix_iff hs (x := 4 * c + 1) (k := k) (by omega)
        rw [hr] at e
        have h := (show ((orb (sc M) r (perOf (sc M) (4 * S.length) r)).any fun h => decide (h / 4 = c ∧ h % 2 = 1)) = true ↔ st S M (4 * c + 1) = r from h)
        by_cases g : st S M (4 * c + 1) = r
        · have : ix S M (4 * c + 1) = k := e.2 (by rw [g])
          rw [if_pos (h.2 g), if_pos (by omega), this]
        · have : ix S M (4 * c + 1) ≠ k := fun e2 => g (by simpa using (e.1 e2).symm)
          rw [if_neg (fun e2 => g (h.1 e2))]
          by_cases g2 : ix S M (4 * c + 1) < k
          · rw [if_pos g2, if_pos (by omega)]
          · rw [if_neg g2, if_neg (by omega)]
  obtain ⟨k1, k2⟩ := key _ (Nat.le_refl _)
  have a1 := ix_lt hs (x := 4 * c + 2) (by omega)
  have a2 := ix_lt hs (x := 4 * c + 1) (by omega)
  rw [if_pos a1] at k1
  rw [if_pos a2] at k2
  unfold ownF
  rw [hlen, ← k1, ← k2]
/-! ### Plain law: the crossings of two strands are even in number. -/
/-- Along an orbit a property is counted alike one step on. -/
theorem orbit_shift {f per : Nat → Nat} {N : Nat} (hf : Inj f N) (hp : ∀ x, x < N → IsPer f x (per x)) (x : Nat) (Q : Nat → Bool) : cnt (fun y => decide (fl f per y = x) && Q (f y)) N = cnt (fun y => decide (fl f per y = x) && Q y) N := by
  have hb : ∀ y, y < N → f (iter f (per y - 1) y) = y := fun y hy => by
    have hpp := hp y hy
    have := hpp.2.1
    rw [show per y = (per y - 1) + 1 from by have := hpp.1; omega, iter_succ] at this
    exact this
  refine Nat.le_antisymm ?_ ?_
  · refine cnt_inj f (fun y hy hpy => ?_) (fun a b ha hb _ _ he => hf.inj a b ha hb he)
    simp only [Bool.and_eq_true, decide_eq_true_eq] at hpy ⊢
    exact ⟨hf.lt y hy, by rw [fl_step hf hp hy]; exact hpy.1, hpy.2⟩
  · refine cnt_inj (fun y => iter f (per y - 1) y) (fun y hy hpy => ?_) (fun a b ha hb' _ _ he => ?_)
    · simp only [Bool.and_eq_true, decide_eq_true_eq] at hpy ⊢
      exact ⟨iter_lt f N hf.lt _ _ hy, by rw [fl_eq hf hp hy ⟨_, rfl⟩]; exact hpy.1, by rw [hb y hy]; exact hpy.2⟩
    · rw [← hb a ha, he, hb b hb']
namespace Shape
variable {S M : List Int} {L : Int} (hs : Shape S M L)
include hs
theorem conn_mt {c x : Nat} (hx : x < 4 * S.length) : Conn M c (x / 4) ↔ Conn M c (mt M x / 4) := hs.mates2.conn hx
theorem conn_sc {c x k : Nat} (hx : x < 4 * S.length) (h : Conn M c (x / 4)) : Conn M c (iter (sc M) k x / 4) := by
  induction k with
  | zero => exact h
  | succ k ih =>
    have hy := iter_lt (sc M) _ hs.injS.lt k x hx
    rw [iter_succ, show sc M (iter (sc M) k x) = tn (mt M (iter (sc M) k x)) 2 from rfl, tn_div]
    exact (hs.conn_mt hy).1 ih
/-- The even number of half-edges at a crossing that lie on a strand. -/
theorem strand_even (p c : Nat) : cnt (fun x => decide (x / 4 = c) && decide (st S M x = p)) (4 * S.length) % 2 = 0 :=
  cnt_even (fun x => tn x 2) fun x hx h => by
    rw [Bool.and_eq_true, decide_eq_true_eq, decide_eq_true_eq] at h ⊢
    refine ⟨tn_lt _ _ _ hx, ⟨by rw [tn_div]; exact h.1, by rw [hs.st_tn2 hx]; exact h.2⟩, tn_22 x, ?_⟩
    have := tn_mod x 2
    intro e
    rw [e] at this
    omega
end Shape
/-- The outgoing half-edge of the strand over. -/
def oo (S : List Int) (c : Nat) : Nat := if nth S c = 1 then 4 * c + 1 else 4 * c + 3
theorem oo_spec {S M : List Int} {L : Int} (hs : Shape S M L) {c : Nat} (hc : c < S.length) : oo S c < 4 * S.length ∧ oo S c / 4 = c ∧ oo S c % 2 = 1 ∧ outB S (oo S c) = true ∧ (oo S c = 4 * c + 1 ∨ oo S c = 4 * c + 3) := by
  unfold oo
  rcases hs.sign c hc with g | g
  · rw [if_pos g]
    exact ⟨by omega, by omega, by omega, by rw [outB_1 S _ (by omega), show (4 * c + 1) / 4 = c from by omega, g]; rfl, .inl rfl⟩
  · rw [if_neg (by omega)]
    exact ⟨by omega, by omega, by omega, by rw [outB_3 S _ (by omega), show (4 * c + 3) / 4 = c from by omega, g]; rfl, .inr rfl⟩
/-- Two outgoing half-edges of one crossing and one parity are equal. -/
theorem out_one {S M : List Int} {L : Int} (hs : Shape S M L) {x y : Nat} (hx : x < 4 * S.length) (h : x / 4 = y / 4) (hp : x % 2 = y % 2) (h1 : outB S x = true) (h2 : outB S y = true) : x = y := by
  rcases (show x = y ∨ x = tn y 2 from by unfold tn; omega) with e | e
  · exact e
  · rw [e, hs.out_tn2 y (by omega), h2] at h1
    exact absurd h1 (by decide)
theorem st_tn1 {S M : List Int} {L : Int} (hs : Shape S M L) {x : Nat} (hx : x < 4 * S.length) : st S M (tn x 1) = if x % 2 = 0 then st S M (4 * (x / 4) + 1) else st S M (4 * (x / 4) + 2) := by
  have h1 := tn_div x 1
  have h2 : tn x 1 % 2 = (x + 1) % 2 := by unfold tn; omega
  have h3 := tn_lt x S.length 1 hx
  split
  · rw [hs.st_odd h3 (by omega), h1]
  · rw [hs.st_even h3 (by omega), h1]
open Classical in
/-- THE CROSSINGS OF TWO STRANDS ARE EVEN IN NUMBER. -/
theorem pair_even {S M : List Int} {L : Int} (hv : vldB S M L = true) (p q : Nat) (hpq : p ≠ q) :
    cnt (fun c => decide ((st S M (4 * c + 2) = p ∧ st S M (4 * c + 1) = q) ∨ (st S M (4 * c + 2) = q ∧ st S M (4 * c + 1) = p))) S.length % 2 = 0 := by
  obtain ⟨hs, hsp⟩ := vldB_iff.1 hv
  by_cases hq : q < 4 * S.length ∧ outB S q = true ∧ st S M q = q
  · obtain ⟨hq1, hq2, hq3⟩ := hq
    have hf := hs.injS
    have hp := hs.perS
    obtain ⟨A, hA⟩ := bounds hs.mates2 hsp (c0 := q / 4) (by omega) (fun x => decide (st S M x = p)) (fun x hx => by rw [hs.st_mt hx]) (fun c _ _ => hs.strand_even p c)
    have h1 := orbit_even hf hp (x := q) (fun y => A (lf M S.length y))
    have horb : ∀ y, y < 4 * S.length → fl (sc M) (perOf (sc M) (4 * S.length)) y = q → OnOrb (sc M) q y := fun y hy he => by
      have := (fl_spec hp hy).1
      rw [he] at this
      exact onOrb_symm hf hy this
    have h2 : cnt (fun y => decide (fl (sc M) (perOf (sc M) (4 * S.length)) y = q) && (A (lf M S.length y) ^^ A (lf M S.length (sc M y)))) (4 * S.length) = cnt (fun y => decide (fl (sc M) (perOf (sc M) (4 * S.length)) y = q) && (fun z => decide (st S M (tn z 1) = p)) (sc M y)) (4 * S.length) := by
      refine cnt_congr fun y hy => ?_
      by_cases he : fl (sc M) (perOf (sc M) (4 * S.length)) y = q
      · obtain ⟨k, hk⟩ := horb y hy he
        have hz := hs.mt_lt hy
        have hzc : Conn M (q / 4) (tn (mt M y) (-1) / 4) := by
          rw [tn_div, ← hs.conn_mt hy, ← hk]
          exact hs.conn_sc hq1 (Conn.refl _ _)
        have h3 := hA (tn (mt M y) (-1)) (tn_lt _ _ _ hz) hzc
        rw [hs.mates2.face_mt (tn_lt _ _ _ hz), tn_tn _ _ _ (by omega) (by omega) (by omega), ← hs.mates2.face_mt hz, hs.mt_mt hy] at h3
        have e1 : tn (mt M y) (-1 + -1) = sc M y := by
          rw [← tn_four _ _ (by omega)]; rfl
        have e2 : tn (sc M y) 1 = tn (mt M y) (-1) := by
          rw [show sc M y = tn (mt M y) 2 from rfl, tn_tn _ _ _ (by omega) (by omega) (by omega), ← tn_four _ (-1) (by omega)]; rfl
        rw [e1] at h3
        show (_ && _) = (_ && decide (st S M (tn (sc M y) 1) = p))
        rw [e2, h3]
      · rw [decide_eq_false he, Bool.false_and, Bool.false_and]
    rw [h2, orbit_shift hf hp q fun z => decide (st S M (tn z 1) = p)] at h1
    have h4 : cnt (fun y => decide (fl (sc M) (perOf (sc M) (4 * S.length)) y = q) && decide (st S M (tn y 1) = p)) (4 * S.length) = cnt (fun c => decide ((st S M (4 * c + 2) = p ∧ st S M (4 * c + 1) = q) ∨ (st S M (4 * c + 2) = q ∧ st S M (4 * c + 1) = p))) S.length := by
      have hy1 : ∀ y, y < 4 * S.length → (decide (fl (sc M) (perOf (sc M) (4 * S.length)) y = q) && decide (st S M (tn y 1) = p)) = true → outB S y = true ∧ st S M y = q ∧ st S M (tn y 1) = p := fun y hy h => by
        rw [Bool.and_eq_true, decide_eq_true_eq, decide_eq_true_eq] at h
        have ho : outB S y = true := by rw [hs.out_orb hq1 (horb y hy h.1)]; exact hq2
        exact ⟨ho, by rw [Shape.st_fl ho]; exact h.1, h.2⟩
      have hpar : ∀ y, y < 4 * S.length → st S M y = q → st S M (tn y 1) = p → (y % 2 = 0 → st S M (4 * (y / 4) + 2) = q ∧ st S M (4 * (y / 4) + 1) = p) ∧ (y % 2 = 1 → st S M (4 * (y / 4) + 1) = q ∧ st S M (4 * (y / 4) + 2) = p) := fun y hy e1 e2 => by
        have e3 := st_tn1 hs hy
        constructor
        · intro h0
          rw [if_pos h0] at e3
          exact ⟨by rw [← hs.st_even hy h0]; exact e1, by rw [← e3]; exact e2⟩
        · intro h0
          rw [if_neg (by omega)] at e3
          exact ⟨by rw [← hs.st_odd hy h0]; exact e1, by rw [← e3]; exact e2⟩
      refine Nat.le_antisymm ?_ ?_
      · refine cnt_inj (fun y => y / 4) (fun y hy h => ?_) (fun x y hx hy hpx hpy he => ?_)
        · obtain ⟨a1, a2, a3⟩ := hy1 y hy h
          refine ⟨by show y / 4 < S.length; omega, ?_⟩
          rw [decide_eq_true_eq]
          obtain ⟨b1, b2⟩ := hpar y hy a2 a3
          rcases Nat.mod_two_eq_zero_or_one y with h0 | h0
          · exact .inr (b1 h0)
          · exact .inl ⟨(b2 h0).2, (b2 h0).1⟩
        · obtain ⟨a1, a2, a3⟩ := hy1 x hx hpx
          obtain ⟨c1, c2, c3⟩ := hy1 y hy hpy
          obtain ⟨b1, b2⟩ := hpar x hx a2 a3
          obtain ⟨d1, d2⟩ := hpar y hy c2 c3
          have he : x / 4 = y / 4 := he
          rw [he] at b1 b2
          refine out_one hs hx he ?_ a1 c1
          rcases Nat.mod_two_eq_zero_or_one x with h0 | h0 <;> rcases Nat.mod_two_eq_zero_or_one y with h5 | h5
          · omega
          · exact absurd ((d2 h5).2.symm.trans (b1 h0).1) hpq
          · exact absurd ((b2 h0).2.symm.trans (d1 h5).1) hpq
          · omega
      · refine cnt_inj (fun c => if st S M (4 * c + 2) = q then 4 * c + 2 else oo S c) (fun c hc h => ?_) (fun c d hc hd hpc hpd he => ?_)
        · rw [decide_eq_true_eq] at h
          obtain ⟨o1, o2, o3, o4, o5⟩ := oo_spec hs hc
          show (if st S M (4 * c + 2) = q then 4 * c + 2 else oo S c) < _ ∧ _
          by_cases g : st S M (4 * c + 2) = q
          · rw [if_pos g]
            refine ⟨by omega, ?_⟩
            rw [← Shape.st_fl (outB_2 S _ (by omega)), st_tn1 hs (by omega), if_pos (by omega), show (4 * c + 2) / 4 = c from by omega, decide_eq_true g, Bool.true_and, decide_eq_true_eq]
            rcases h with h | h
            · exact absurd (h.1.symm.trans g) hpq
            · exact h.2
          · rw [if_neg g]
            refine ⟨o1, ?_⟩
            rw [← Shape.st_fl o4, st_tn1 hs o1, if_neg (by omega), o2, hs.st_odd o1 o3, o2]
            rcases h with h | h
            · rw [decide_eq_true h.1, decide_eq_true h.2]; rfl
            · exact absurd h.1 g
        · obtain ⟨o1, o2, _⟩ := oo_spec hs hc
          obtain ⟨p1, p2, _⟩ := oo_spec hs hd
          have he : (if st S M (4 * c + 2) = q then 4 * c + 2 else oo S c) = (if st S M (4 * d + 2) = q then 4 * d + 2 else oo S d) := he
          split at he <;> split at he <;> omega
    rw [← h4]
    exact h1
  · rw [cnt_none fun c hc => ?_]
    refine decide_eq_false fun h => hq ?_
    rcases h with h | h
    · rw [← h.2]; exact ⟨hs.st_lt (by omega), hs.st_out (by omega), hs.st_idem (by omega)⟩
    · rw [← h.1]; exact ⟨hs.st_lt (by omega), hs.st_out (by omega), hs.st_idem (by omega)⟩
/-! ### Plain law: a renaming of the half-edges carries everything over. -/
/-- The way back along a permutation. -/
def back (f : Nat → Nat) (N y : Nat) : Nat := iter f (perOf f N y - 1) y
section
variable {f : Nat → Nat} {N : Nat} (hf : Inj f N)
include hf
theorem back_lt {y : Nat} (hy : y < N) : back f N y < N := iter_lt f N hf.lt _ _ hy
theorem f_back {y : Nat} (hy : y < N) : f (back f N y) = y := by
  have hpp := perOf_all hf y hy
  have := hpp.2.1
  rw [show perOf f N y = (perOf f N y - 1) + 1 from by have := hpp.1; omega, iter_succ] at this
  exact this
theorem back_f {x : Nat} (hx : x < N) : back f N (f x) = x := hf.inj _ _ (back_lt hf (hf.lt x hx)) hx (f_back hf (hf.lt x hx))
theorem back_inj : Inj (back f N) N := ⟨fun x hx => back_lt hf hx, fun x y hx hy he => by rw [← f_back hf hx, he, f_back hf hy]⟩
end
theorem orbits_le {f g per per' : Nat → Nat} {N : Nat} (hf : Inj f N) (hp : ∀ x, x < N → IsPer f x (per x)) (hg : Inj g N) (hp' : ∀ x, x < N → IsPer g x (per' x)) (ρ : Nat → Nat) (hρ : ∀ x, x < N → ρ x < N)
    (P P' : Nat → Bool) (h1 : ∀ x y, x < N → y < N → OnOrb g (ρ x) (ρ y) → OnOrb f x y) (hP : ∀ x, x < N → P x = true → P' (fl g per' (ρ x)) = true) :
    cnt (fun x => leastB f per x && P x) N ≤ cnt (fun x => leastB g per' x && P' x) N := by
  refine cnt_inj (fun x => fl g per' (ρ x)) (fun x hx h => ?_) (fun x y hx hy hpx hpy he => ?_)
  · rw [Bool.and_eq_true] at h
    have hr := hρ x hx
    have hl := fl_lt hg hp' hr
    exact ⟨hl, by rw [(fl_least hg hp' hl).2 (fl_idem hg hp' hr), hP x hx h.2]; rfl⟩
  · rw [Bool.and_eq_true] at hpx hpy
    have hx2 := hρ x hx
    have hy2 := hρ y hy
    have a := (fl_spec hp' hx2).1
    have b := (fl_spec hp' hy2).1
    have he : fl g per' (ρ x) = fl g per' (ρ y) := he
    rw [← he] at b
    have ho := h1 x y hx hy (onOrb_trans a (onOrb_symm hg hy2 b))
    rw [← (fl_least hf hp hx).1 hpx.1, ← (fl_least hf hp hy).1 hpy.1]
    exact (fl_eq hf hp hx ho).symm
/-- A renaming of the half-edges; e = -1: the orientation of the sphere turns. -/
structure Iso (M M' : List Int) (n : Nat) (τ : Nat → Nat) (e : Int) : Prop where
  inj : Inj τ (4 * n)
  mate : ∀ x, x < 4 * n → nth M' (τ x) = (τ (mt M x) : Int)
  turn : ∀ x, x < 4 * n → τ (tn x 1) = tn (τ x) e
  unit : e = 1 ∨ e = -1
namespace Iso
variable {M M' : List Int} {n : Nat} {τ : Nat → Nat} {e : Int} (h : Iso M M' n τ e)
include h
theorem lt {x : Nat} (hx : x < 4 * n) : τ x < 4 * n := h.inj.lt x hx
theorem mt' {x : Nat} (hx : x < 4 * n) : mt M' (τ x) = τ (mt M x) := by
  have := h.mate x hx
  unfold mt at *
  omega
theorem opp {x : Nat} (hx : x < 4 * n) : τ (tn x 2) = tn (τ x) 2 := by
  have h1 := h.turn x hx
  have h2 := h.turn (tn x 1) (tn_lt _ _ _ hx)
  rw [tn_tn _ _ _ (by omega) (by omega) (by omega), h1] at h2
  rw [show (2 : Int) = 1 + 1 from rfl, h2]
  rcases h.unit with rfl | rfl
  · rw [tn_tn _ _ _ (by omega) (by omega) (by omega)]
  · rw [tn_tn _ _ _ (by omega) (by omega) (by omega), ← tn_four _ _ (by omega)]; rfl
theorem turnBack {x : Nat} (hx : x < 4 * n) : τ (tn x (-1)) = tn (τ x) (-e) := by
  have h1 := h.turn (tn x (-1)) (tn_lt _ _ _ hx)
  rw [tn_tn _ _ _ (by omega) (by omega) (by omega), show (-1 : Int) + 1 = 0 from rfl, tn_zero] at h1
  rw [h1]
  rcases h.unit with rfl | rfl <;> rw [tn_tn _ _ _ (by omega) (by omega) (by omega)] <;> exact (tn_zero _).symm
theorem same {x y : Nat} (hx : x < 4 * n) (he : x / 4 = y / 4) : τ x / 4 = τ y / 4 := by
  rcases (show y = x ∨ y = tn x 1 ∨ y = tn x 2 ∨ y = tn x (-1) from by unfold tn; omega) with rfl | rfl | rfl | rfl
  · rfl
  · rw [h.turn x hx, tn_div]
  · rw [h.opp hx, tn_div]
  · rw [h.turnBack hx, tn_div]
theorem symm (hm : Mates M n) : Iso M' M n (back τ (4 * n)) e := by
  have hb : ∀ x, x < 4 * n → back τ (4 * n) x < 4 * n := fun x hx => back_lt h.inj hx
  refine ⟨back_inj h.inj, fun x hx => ?_, fun x hx => ?_, h.unit⟩
  · have h1 := h.mt' (hb x hx)
    rw [f_back h.inj hx] at h1
    rw [h1, back_f h.inj (hm.lt (hb x hx))]
    have := (hm.ok.lt _ (hb x hx)).1
    unfold mt
    omega
  · have h1 : tn x 1 = tn (tn (tn x e) (-e)) 1 := by
      rcases h.unit with rfl | rfl <;> rw [tn_tn x _ _ (by omega) (by omega) (by omega)] <;> rw [show (_ : Int) + _ = 0 from rfl, tn_zero]
    rcases h.unit with rfl | rfl
    · refine h.inj.inj _ _ (hb _ (tn_lt _ _ _ hx)) (tn_lt _ _ _ (hb _ hx)) ?_
      rw [f_back h.inj (tn_lt _ _ _ hx), h.turn _ (hb _ hx), f_back h.inj hx]
    · refine h.inj.inj _ _ (hb _ (tn_lt _ _ _ hx)) (tn_lt _ _ _ (hb _ hx)) ?_
      rw [f_back h.inj (tn_lt _ _ _ hx), h.turnBack (hb _ hx), f_back h.inj hx]; rfl
theorem mates (hm : Mates M n) : Mates M' n := by
  have key : ∀ y, y < 4 * n → ∃ x, x < 4 * n ∧ τ x = y := fun y hy => ⟨_, back_lt h.inj hy, f_back h.inj hy⟩
  refine ⟨⟨fun y hy => ?_, fun y hy => ?_⟩, fun y hy => ?_⟩
  · obtain ⟨x, hx, rfl⟩ := key y hy
    rw [h.mate x hx]
    have := h.lt (hm.lt hx)
    omega
  · obtain ⟨x, hx, rfl⟩ := key y hy
    rw [h.mate x hx, Int.toNat_natCast, h.mate _ (hm.lt hx), hm.inv hx]
  · obtain ⟨x, hx, rfl⟩ := key y hy
    rw [h.mt' hx]
    intro e2
    exact hm.ne x hx (h.inj.inj _ _ (hm.lt hx) hx e2)
theorem conn1 (hm : Mates M n) {x y : Nat} (hx : x < 4 * n) (hy : y < 4 * n) (hc : Conn M (x / 4) (y / 4)) : Conn M' (τ x / 4) (τ y / 4) := by
  have := hc (fun c => c < n ∧ Conn M' (τ x / 4) (τ (4 * c) / 4)) ⟨by omega, by
    rw [h.same (x := 4 * (x / 4)) (y := x) (by omega) (by omega)]; exact Conn.refl _ _⟩ (fun a b ⟨ha, hq⟩ hab => by
      refine ⟨hm.ok.adj_lt ha hab, ?_⟩
      obtain ⟨s, hs, rfl⟩ := hab
      refine hq.step ?_
      have h1 : τ (4 * a) / 4 = τ (4 * a + s) / 4 := h.same (by omega) (by omega)
      have h2 := Mates.adj (M := M') (x := τ (4 * a + s))
      rw [h.mt' (by omega)] at h2
      rw [h1]
      have h3 : τ (4 * ((nth M (4 * a + s)).toNat / 4)) / 4 = τ (mt M (4 * a + s)) / 4 := h.same (by have := hm.lt (x := 4 * a + s) (by omega); unfold mt at this; omega) (by unfold mt; omega)
      rw [h3]; exact h2)
  rw [h.same (x := y) (y := 4 * (y / 4)) hy (by omega)]
  exact this.2
theorem conn (hm : Mates M n) {x y : Nat} (hx : x < 4 * n) (hy : y < 4 * n) : Conn M' (τ x / 4) (τ y / 4) ↔ Conn M (x / 4) (y / 4) := by
  refine ⟨fun hc => ?_, h.conn1 hm hx hy⟩
  have := (h.symm hm).conn1 (h.mates hm) (h.lt hx) (h.lt hy) hc
  rwa [back_f h.inj hx, back_f h.inj hy] at this
/-- Where a face goes. -/
def rho (M : List Int) (τ : Nat → Nat) (e : Int) (x : Nat) : Nat := if e = 1 then τ x else τ (mt M x)
omit h in
theorem rho_lt (h : Iso M M' n τ e) (hm : Mates M n) {x : Nat} (hx : x < 4 * n) : rho M τ e x < 4 * n := by
  unfold rho; split
  · exact h.lt hx
  · exact h.lt (hm.lt hx)
omit h in
theorem rho_face1 (h : Iso M M' n τ e) (hm : Mates M n) {x : Nat} (hx : x < 4 * n) : OnOrb (fc M') (rho M τ e x) (rho M τ e (fc M x)) := by
  have hm' := h.mates hm
  have hfx : fc M x < 4 * n := hm.inj.lt x hx
  rcases h.unit with rfl | rfl
  · refine ⟨1, ?_⟩
    have r1 : ∀ z, rho M τ 1 z = τ z := fun z => if_pos rfl
    show fc M' (rho M τ 1 x) = rho M τ 1 (fc M x)
    rw [r1, r1]
    have h1 : fc M' (τ x) = tn (mt M' (τ x)) (-1) := rfl
    rw [h1, h.mt' hx]
    exact (h.turnBack (hm.lt hx)).symm
  · have key : fc M' (τ (mt M (fc M x))) = τ (mt M x) := by
      have h1 : fc M' (τ (mt M (fc M x))) = tn (mt M' (τ (mt M (fc M x)))) (-1) := rfl
      have h2 := h.turn _ hfx
      have h3 : tn (fc M x) 1 = mt M x := tn_back _
      rw [h1, h.mt' (hm.lt hfx), hm.inv hfx, ← h2, h3]
    refine onOrb_symm hm'.inj (rho_lt h hm hfx) ⟨1, ?_⟩
    have r2 : ∀ z, rho M τ (-1) z = τ (mt M z) := fun z => if_neg (by omega)
    show fc M' (rho M τ (-1) (fc M x)) = rho M τ (-1) x
    rw [r2, r2]; exact key
omit h in
theorem rho_face (h : Iso M M' n τ e) (hm : Mates M n) {x y : Nat} (hx : x < 4 * n) (ho : OnOrb (fc M) x y) : OnOrb (fc M') (rho M τ e x) (rho M τ e y) := by
  obtain ⟨k, rfl⟩ := ho
  induction k with
  | zero => exact onOrb_refl _ _
  | succ k ih =>
    rw [iter_succ]
    exact onOrb_trans ih (rho_face1 h hm (iter_lt (fc M) _ hm.inj.lt k x hx))
omit h in
theorem rho_back (h : Iso M M' n τ e) (hm : Mates M n) {x : Nat} (hx : x < 4 * n) : rho M' (back τ (4 * n)) e (rho M τ e x) = x := by
  unfold rho
  split
  · exact back_f h.inj hx
  · rw [h.mt' (hm.lt hx), hm.inv hx]; exact back_f h.inj hx
omit h in
theorem rho_face_iff (h : Iso M M' n τ e) (hm : Mates M n) {x y : Nat} (hx : x < 4 * n) (hy : y < 4 * n) : OnOrb (fc M') (rho M τ e x) (rho M τ e y) ↔ OnOrb (fc M) x y := by
  refine ⟨fun ho => ?_, rho_face h hm hx⟩
  have := rho_face (h.symm hm) (h.mates hm) (rho_lt h hm hx) ho
  rwa [rho_back h hm hx, rho_back h hm hy] at this
open Classical in
theorem FC_le (hm : Mates M n) {z : Nat} (hz : z < 4 * n) : FC M n (z / 4) ≤ FC M' n (τ z / 4) := by
  have hm' := h.mates hm
  refine orbits_le hm.inj hm.per hm'.inj hm'.per (rho M τ e) (fun x hx => rho_lt h hm hx) (fun x => decide (Conn M (z / 4) (x / 4))) (fun x => decide (Conn M' (τ z / 4) (x / 4))) (fun x y hx hy => (rho_face_iff h hm hx hy).1) (fun x hx hp => ?_)
  rw [decide_eq_true_eq] at hp ⊢
  have h1 := hm'.conn_face (c := τ z / 4) (rho_lt h hm hx)
  refine h1.2 ?_
  unfold rho
  split
  · exact h.conn1 hm hz hx hp
  · exact h.conn1 hm hz (hm.lt hx) ((hm.conn hx).1 hp)
open Classical in
theorem VC_le (hm : Mates M n) {z : Nat} (hz : z < 4 * n) : VC M n (z / 4) ≤ VC M' n (τ z / 4) := by
  refine cnt_inj (p := fun d => decide (Conn M (z / 4) d)) (q := fun d => decide (Conn M' (τ z / 4) d)) (fun c => τ (4 * c) / 4) (fun c hc hp => ?_) (fun c d hc hd _ _ he => ?_)
  · rw [decide_eq_true_eq] at hp ⊢
    have h1 := h.lt (x := 4 * c) (by omega)
    refine ⟨by show τ (4 * c) / 4 < n; omega, ?_⟩
    refine h.conn1 hm hz (by omega) ?_
    rw [show 4 * c / 4 = c from by omega]; exact hp
  · have h1 := h.lt (x := 4 * c) (by omega)
    have h2 := h.lt (x := 4 * d) (by omega)
    have he : τ (4 * c) / 4 = τ (4 * d) / 4 := he
    have h3 := (h.symm hm).same h1 he
    rw [back_f h.inj (by omega), back_f h.inj (by omega)] at h3
    omega
/-- A renamed sphere is a sphere. -/
theorem sph (hm : Mates M n) (hs : Sph M n) : Sph M' n := by
  intro c hc
  have hm' := h.mates hm
  have h4 : 4 * c < 4 * n := by omega
  have hb := back_lt h.inj h4
  have a1 := h.FC_le hm hb
  have a2 := h.VC_le hm hb
  have b1 := (h.symm hm).FC_le hm' h4
  have b2 := (h.symm hm).VC_le hm' h4
  rw [f_back h.inj h4, show 4 * c / 4 = c from by omega] at a1 a2
  rw [show 4 * c / 4 = c from by omega] at b1 b2
  have := hs (back τ (4 * n) (4 * c) / 4) (by omega)
  omega
end Iso
/-- x and y lie on one strand, whatever its direction. -/
def Same (M : List Int) (x y : Nat) : Prop := ∀ Q : Nat → Prop, Q x → (∀ z, Q z → Q (mt M z)) → (∀ z, Q z → Q (tn z 2)) → Q y
theorem Same.refl (M : List Int) (x : Nat) : Same M x x := fun _ h _ _ => h
theorem Same.trans {M : List Int} {x y z : Nat} (a : Same M x y) (b : Same M y z) : Same M x z := fun Q h h1 h2 => b Q (a Q h h1 h2) h1 h2
theorem Same.mate {M : List Int} {x y : Nat} (a : Same M x y) : Same M x (mt M y) := fun Q h h1 h2 => h1 _ (a Q h h1 h2)
theorem Same.opp {M : List Int} {x y : Nat} (a : Same M x y) : Same M x (tn y 2) := fun Q h h1 h2 => h2 _ (a Q h h1 h2)
theorem Same.symm {M : List Int} {n x y : Nat} (hm : Mates M n) (hx : x < 4 * n) (a : Same M x y) : Same M y x := by
  refine (a (fun z => z < 4 * n ∧ Same M z x) ⟨hx, Same.refl _ _⟩ (fun z ⟨hz, h⟩ => ⟨hm.lt hz, ?_⟩) (fun z ⟨hz, h⟩ => ⟨tn_lt _ _ _ hz, ?_⟩)).2
  · have := (Same.refl M (mt M z)).mate
    rw [hm.inv hz] at this
    exact this.trans h
  · have := (Same.refl M (tn z 2)).opp
    rw [tn_22] at this
    exact this.trans h
theorem Same.lt {M : List Int} {n x y : Nat} (hm : Mates M n) (hx : x < 4 * n) (a : Same M x y) : y < 4 * n :=
  a (· < 4 * n) hx (fun _ hz => hm.lt hz) (fun _ hz => tn_lt _ _ _ hz)
theorem st_same {S M : List Int} {L : Int} (hs : Shape S M L) {x : Nat} (hx : x < 4 * S.length) : Same M x (st S M x) := by
  have h1 : Same M x (sg S M x) := by
    unfold sg; split
    · exact Same.refl _ _
    · exact (Same.refl _ _).mate
  refine h1.trans ?_
  obtain ⟨k, hk⟩ := (fl_spec hs.perS (hs.sg_lt hx)).1
  unfold st
  rw [← hk]
  generalize sg S M x = y
  clear hk h1
  induction k with
  | zero => exact Same.refl _ _
  | succ k ih => rw [iter_succ]; exact (ih.mate).opp
theorem st_iff {S M : List Int} {L : Int} (hs : Shape S M L) {x y : Nat} (hx : x < 4 * S.length) (hy : y < 4 * S.length) : st S M x = st S M y ↔ Same M x y := by
  constructor
  · intro h
    have h1 := st_same hs hx
    have h2 := st_same hs hy
    rw [h] at h1
    exact h1.trans (h2.symm hs.mates2 hy)
  · intro h
    exact (h (fun z => z < 4 * S.length ∧ st S M x = st S M z) ⟨hx, rfl⟩ (fun z ⟨hz, e⟩ => ⟨hs.mt_lt hz, by rw [hs.st_mt hz]; exact e⟩) (fun z ⟨hz, e⟩ => ⟨tn_lt _ _ _ hz, by rw [hs.st_tn2 hz]; exact e⟩)).2
theorem Iso.same1 {M M' : List Int} {n : Nat} {τ : Nat → Nat} {e : Int} (h : Iso M M' n τ e) (hm : Mates M n) {x y : Nat} (hx : x < 4 * n) (a : Same M x y) : Same M' (τ x) (τ y) := by
  refine (a (fun z => z < 4 * n ∧ Same M' (τ x) (τ z)) ⟨hx, Same.refl _ _⟩ (fun z ⟨hz, h1⟩ => ⟨hm.lt hz, ?_⟩) (fun z ⟨hz, h1⟩ => ⟨tn_lt _ _ _ hz, ?_⟩)).2
  · rw [← h.mt' hz]; exact h1.mate
  · rw [h.opp hz]; exact h1.opp
theorem Iso.same_iff {M M' : List Int} {n : Nat} {τ : Nat → Nat} {e : Int} (h : Iso M M' n τ e) (hm : Mates M n) {x y : Nat} (hx : x < 4 * n) (hy : y < 4 * n) : Same M' (τ x) (τ y) ↔ Same M x y := by
  refine ⟨fun a => ?_, h.same1 hm hx⟩
  have := (h.symm hm).same1 (h.mates hm) (h.lt hx) a
  rwa [back_f h.inj hx, back_f h.inj hy] at this
/-- The strands, carried over. -/
theorem Iso.st_eq {S S' M M' : List Int} {L L' : Int} {τ : Nat → Nat} {e : Int} (hs : Shape S M L) (hs' : Shape S' M' L') (hl : S'.length = S.length) (h : Iso M M' S.length τ e) {x y : Nat} (hx : x < 4 * S.length) (hy : y < 4 * S.length) : st S' M' (τ x) = st S' M' (τ y) ↔ st S M x = st S M y := by
  have h1 := h.lt hx
  have h2 := h.lt hy
  rw [st_iff hs' (by omega) (by omega), h.same_iff hs.mates2 hx hy, st_iff hs hx hy]
theorem leasts_len (S M : List Int) : (leasts S M).length = cnt (fun x => outB S x && leastB (sc M) (perOf (sc M) (4 * S.length)) x) (4 * S.length) := by
  unfold leasts cnt
  rw [List.countP_eq_length_filter]
theorem leasts_cnt {S M : List Int} {L : Int} (hs : Shape S M L) {x : Nat} (hx : x < 4 * S.length) : (outB S x && leastB (sc M) (perOf (sc M) (4 * S.length)) x) = true ↔ outB S x = true ∧ st S M x = x := by
  rw [Bool.and_eq_true]
  constructor
  · rintro ⟨h1, h2⟩
    exact ⟨h1, by rw [Shape.st_fl h1]; exact (fl_least hs.injS hs.perS hx).1 h2⟩
  · rintro ⟨h1, h2⟩
    rw [Shape.st_fl h1] at h2
    exact ⟨h1, (fl_least hs.injS hs.perS hx).2 h2⟩
/-- A one-to-one way of strands. -/
theorem leasts_le {S S' M M' : List Int} {L L' : Int} (hs : Shape S M L) (hs' : Shape S' M' L') (τ : Nat → Nat) (hτ : ∀ x, x < 4 * S.length → τ x < 4 * S'.length) (h : ∀ x y, x < 4 * S.length → y < 4 * S.length → st S' M' (τ x) = st S' M' (τ y) → st S M x = st S M y) : (leasts S M).length ≤ (leasts S' M').length := by
  rw [leasts_len, leasts_len]
  refine cnt_inj (fun x => st S' M' (τ x)) (fun x hx hp => ?_) (fun x y hx hy hpx hpy he => ?_)
  · have h1 := hτ x hx
    exact ⟨hs'.st_lt h1, (leasts_cnt hs' (hs'.st_lt h1)).2 ⟨hs'.st_out h1, hs'.st_idem h1⟩⟩
  · have h1 := ((leasts_cnt hs hx).1 hpx).2
    have h2 := ((leasts_cnt hs hy).1 hpy).2
    have h3 := h x y hx hy he
    omega
theorem Iso.leasts_eq {S S' M M' : List Int} {L L' : Int} {τ : Nat → Nat} {e : Int} (hs : Shape S M L) (hs' : Shape S' M' L') (hl : S'.length = S.length) (h : Iso M M' S.length τ e) : (leasts S' M').length = (leasts S M).length := by
  refine Nat.le_antisymm ?_ ?_
  · refine leasts_le hs' hs (back τ (4 * S.length)) (fun x hx => back_lt h.inj (by omega)) (fun x y hx hy he => ?_)
    have h1 := back_lt h.inj (y := x) (by omega)
    have h2 := back_lt h.inj (y := y) (by omega)
    have := (h.st_eq hs hs' hl h1 h2).2 he
    rwa [f_back h.inj (by omega), f_back h.inj (by omega)] at this
  · exact leasts_le hs hs' τ (fun x hx => by have := h.lt hx; omega) (fun x y hx hy he => (h.st_eq hs hs' hl hx hy).1 he)
/-- The renamed diagram is in order. -/
theorem Iso.shape {S S' M M' : List Int} {L : Int} {τ : Nat → Nat} {e : Int} (hs : Shape S M L) (hl : S'.length = S.length) (hlm : M'.length = 4 * S.length) (h : Iso M M' S.length τ e) (hsg : ∀ c, c < S.length → nth S' c = 1 ∨ nth S' c = -1)
    (hout : ∀ x, x < 4 * S.length → outB S' (τ x) ≠ outB S' (τ (mt M x))) : Shape S' M' L := by
  have hm' := h.mates hs.mates2
  refine ⟨by rw [hl]; exact hs.few, by rw [hl]; exact hlm, hs.lo, hs.hi, fun c hc => hsg c (by omega), fun y hy => ?_⟩
  have hy : y < 4 * S.length := by omega
  have h1 := hm'.ok.lt y hy
  have h2 := hm'.ne y hy
  unfold mt at h2
  refine ⟨h1.1, by rw [hl]; exact h1.2, by omega, hm'.ok.inv y hy, ?_⟩
  have hb := back_lt h.inj hy
  have h3 := hout _ hb
  rw [← h.mt' hb, f_back h.inj hy] at h3
  exact h3
theorem Iso.valid {S S' M M' : List Int} {L : Int} {τ : Nat → Nat} {e : Int} (hv : vldB S M L = true) (hl : S'.length = S.length) (hlm : M'.length = 4 * S.length) (h : Iso M M' S.length τ e) (hsg : ∀ c, c < S.length → nth S' c = 1 ∨ nth S' c = -1)
    (hout : ∀ x, x < 4 * S.length → outB S' (τ x) ≠ outB S' (τ (mt M x))) : vldB S' M' L = true := by
  obtain ⟨hs, hsp⟩ := vldB_iff.1 hv
  rw [vldB_iff]
  refine ⟨h.shape hs hl hlm hsg hout, ?_⟩
  rw [hl]
  exact h.sph hs.mates2 hsp
/-! ### Plain law: what mirror.move computes. -/
/-- The mates, moved: the first k. -/
def mvTo (τ : Nat → Nat) (M : List Int) : Nat → List Int
  | 0 => List.replicate M.length 0
  | k + 1 => (mvTo τ M k).set (τ k) ((τ (mt M k) : Nat) : Int)
/-- .. all. -/
def mvL (τ : Nat → Nat) (M : List Int) : List Int := mvTo τ M M.length
theorem mvTo_len (τ : Nat → Nat) (M : List Int) (k : Nat) : (mvTo τ M k).length = M.length := by
  induction k with
  | zero => simp [mvTo]
  | succ k ih => simp [mvTo, ih]
theorem mvL_len (τ : Nat → Nat) (M : List Int) : (mvL τ M).length = M.length := mvTo_len τ M _
theorem nth_mvTo {τ : Nat → Nat} {M : List Int} {N : Nat} (hN : M.length = N) (hτ : Inj τ N) (k : Nat) (hk : k ≤ N) (x : Nat) (hx : x < k) : nth (mvTo τ M k) (τ x) = ((τ (mt M x) : Nat) : Int) := by
  induction k with
  | zero => omega
  | succ k ih =>
    rw [mvTo, nth_set _ _ _ _ (by rw [mvTo_len, hN]; exact hτ.lt k (by omega))]
    by_cases e : τ k = τ x
    · have := hτ.inj k x (by omega) (by omega) e
      rw [if_pos e, this]
    · rw [if_neg e]
      refine ih (by omega) ?_
      rcases Nat.lt_or_ge x k with h | h
      · exact h
      · obtain rfl : x = k := by omega
        exact absurd rfl e
theorem nth_mvL {τ : Nat → Nat} {M : List Int} {N : Nat} (hN : M.length = N) (hτ : Inj τ N) (x : Nat) (hx : x < N) : nth (mvL τ M) (τ x) = ((τ (mt M x) : Nat) : Int) := nth_mvTo hN hτ _ (by omega) x (by omega)
/-- Same places, same list. -/
theorem mvTo_congr {τ σ : Nat → Nat} {M : List Int} {N : Nat} (hM : ∀ x, x < N → mt M x < N) (h : ∀ x, x < N → τ x = σ x) (k : Nat) (hk : k ≤ N) : mvTo τ M k = mvTo σ M k := by
  induction k with
  | zero => rfl
  | succ k ih => rw [mvTo, mvTo, ih (by omega), h k (by omega), h _ (hM k (by omega))]
theorem mvL_congr {τ σ : Nat → Nat} {M : List Int} {N : Nat} (hN : M.length = N) (hM : ∀ x, x < N → mt M x < N) (h : ∀ x, x < N → τ x = σ x) : mvL τ M = mvL σ M := mvTo_congr hM h _ (by omega)
/-- The slots turned, at each crossing by its own number. -/
def trn (b : Nat → Int) (x : Nat) : Nat := tn x (b (x / 4))
theorem trn_div (b : Nat → Int) (x : Nat) : trn b x / 4 = x / 4 := tn_div _ _
theorem tn_inj {x y : Nat} {a : Int} (ha : -4 ≤ a) (h : tn x a = tn y a) : x = y := by unfold tn at h; omega
theorem trn_inj (b : Nat → Int) (hb : ∀ c, -4 ≤ b c) (n : Nat) : Inj (trn b) (4 * n) := by
  refine ⟨fun x hx => tn_lt _ _ _ hx, fun x y hx hy he => ?_⟩
  have h1 := trn_div b x
  rw [he, trn_div] at h1
  unfold trn at he
  rw [h1] at he
  exact tn_inj (hb _) he
/-- A turning of the slots is a renaming. -/
theorem trn_iso {M : List Int} {n : Nat} (hM : M.length = 4 * n) (b : Nat → Int) (hb : ∀ c, -4 ≤ b c) : Iso M (mvL (trn b) M) n (trn b) 1 := by
  refine ⟨trn_inj b hb n, fun x hx => nth_mvL hM (trn_inj b hb n) x hx, fun x hx => ?_, .inl rfl⟩
  unfold trn
  rw [tn_div, tn_tn _ _ _ (by omega) (hb _) (by have := hb (x / 4); omega), tn_tn _ _ _ (hb _) (by omega) (by have := hb (x / 4); omega), Int.add_comm]
/-- The slots 1 and 3 exchanged. -/
def rfl4 (x : Nat) : Nat := tn x (4 - 2 * ((x % 4 : Nat) : Int))
theorem rfl4_val (x : Nat) : rfl4 x = 4 * (x / 4) + (4 - x % 4) % 4 := by unfold rfl4 tn; omega
theorem rfl4_inj (n : Nat) : Inj rfl4 (4 * n) := by
  refine ⟨fun x hx => tn_lt _ _ _ hx, fun x y hx hy he => ?_⟩
  rw [rfl4_val, rfl4_val] at he
  omega
theorem rfl4_iso {M : List Int} {n : Nat} (hM : M.length = 4 * n) : Iso M (mvL rfl4 M) n rfl4 (-1) := by
  refine ⟨rfl4_inj n, fun x hx => nth_mvL hM (rfl4_inj n) x hx, fun x hx => ?_, .inr rfl⟩
  rw [rfl4_val, rfl4_val]
  have h1 := tn_div x 1
  have h2 := tn_mod x 1
  have h3 : tn (4 * (x / 4) + (4 - x % 4) % 4) (-1) = 4 * (x / 4) + ((4 - x % 4) % 4 + 3) % 4 := by unfold tn; omega
  rw [h3]
  omega
/-- The signs, each multiplied. -/
def mulS (S : List Int) (g : Nat → Int) : List Int := (List.range S.length).map fun c => nth S c * g c
theorem mulS_len (S : List Int) (g : Nat → Int) : (mulS S g).length = S.length := by simp [mulS]
theorem nth_mulS (S : List Int) (g : Nat → Int) (c : Nat) (hc : c < S.length) : nth (mulS S g) c = nth S c * g c := by simp [nth, mulS, hc]
end Go.Proofs.Ytmjoijfafachhaa
