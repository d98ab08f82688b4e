/- Orbits: what is reached, the classes and their leaders, the search and the labels. -/
import Derived.Test.YtlgiponfcmeiiaaDoorRefW
import Derived.Test.YtlgiponfcmeiiaaDoorSortW
namespace Go.Proofs.YtlgiponfcmeiiaaDoor
open Go Go.RowKit
/-- y is reached from x. -/
inductive Rch (f : Nat → Nat → Nat) (n : Nat) : Nat → Nat → Prop
  | refl (x : Nat) : Rch f n x x
  | step {x z y : Nat} : z < n → Rch f n (f x z) y → Rch f n x y
theorem Rch.trans {f : Nat → Nat → Nat} {n x y z : Nat} (h : Rch f n x y) (g : Rch f n y z) : Rch f n x z := by
  induction h with
  | refl => exact g
  | step hz _ ih => exact .step hz (ih g)
theorem Rch.one {f : Nat → Nat → Nat} {n x z : Nat} (h : z < n) : Rch f n x (f x z) := .step h (.refl _)
theorem Rch.lt {f : Nat → Nat → Nat} {n x y : Nat} (hlt : ∀ x y, x < n → y < n → f x y < n) (h : Rch f n x y) (hx : x < n) : y < n := by
  induction h with
  | refl => exact hx
  | step hz _ ih => exact ih (hlt _ _ hx hz)
/-- What maps a finite part into itself, one to one, hits each of its members. -/
theorem onto_in {p : Nat → Prop} {g : Nat → Nat} {n : Nat} (hp : ∀ v, v < n → p v → g v < n ∧ p (g v)) (hi : ∀ a b, a < n → b < n → g a = g b → a = b) {v : Nat} (hv : v < n) (hpv : p v) : ∃ u, u < n ∧ p u ∧ g u = v := by
  refine Classical.byContradiction fun hno => ?_
  obtain ⟨L, hL⟩ : ∃ L, L = (List.range n).filter fun v => okB (p v) := ⟨_, rfl⟩
  have hmem : ∀ u, u ∈ L ↔ u < n ∧ p u := fun u => by rw [hL, List.mem_filter, List.mem_range, okB_iff]
  have hnd : L.Nodup := by rw [hL]; exact List.nodup_range.sublist List.filter_sublist
  have hm : (L.map g).Nodup := by
    rw [List.nodup_iff_pairwise_ne, List.pairwise_map]
    rw [List.nodup_iff_pairwise_ne] at hnd
    exact hnd.imp_of_mem fun {a b} ha hb hab e => hab (hi a b ((hmem a).1 ha).1 ((hmem b).1 hb).1 e)
  have hs : ∀ u ∈ L.map g, u ∈ L.erase v := fun u hu => by
    obtain ⟨z, hz, rfl⟩ := List.mem_map.1 hu
    have hz2 := (hmem z).1 hz
    rw [List.Nodup.mem_erase_iff hnd]
    exact ⟨fun e => hno ⟨z, hz2.1, hz2.2, e⟩, (hmem _).2 (hp z hz2.1 hz2.2)⟩
  have hl := hm.length_le_of_subset hs
  have hvL := (hmem v).2 ⟨hv, hpv⟩
  have h0 := List.length_pos_of_mem hvL
  rw [List.length_map, List.length_erase_of_mem hvL] at hl
  omega
theorem Rch.back {f : Nat → Nat → Nat} {n x z : Nat} (hlt : ∀ x y, x < n → y < n → f x y < n) (hi : IvtN f n) (hx : x < n) (hz : z < n) : Rch f n (f x z) x := by
  obtain ⟨u, hu, hpu, he⟩ := onto_in (p := fun v => Rch f n (f x z) v) (g := fun v => f v z) (n := n) (fun v hv h => ⟨hlt v z hv hz, h.trans (.one hz)⟩) (fun a b ha hb e => hi z hz a b ha hb e) (hlt x z hx hz) (.refl _)
  have := hi z hz u x hu hx he
  subst this
  exact hpu
theorem Rch.symm {f : Nat → Nat → Nat} {n x y : Nat} (hlt : ∀ x y, x < n → y < n → f x y < n) (hi : IvtN f n) (h : Rch f n x y) (hx : x < n) : Rch f n y x := by
  induction h with
  | refl => exact .refl _
  | step hz _ ih => exact (ih (hlt _ _ hx hz)).trans (Rch.back hlt hi hx hz)
/-- x is the least of its orbit. -/
def Ldr (f : Nat → Nat → Nat) (n x : Nat) : Prop := ∀ y, y < x → ¬ Rch f n y x
noncomputable def cls (f : Nat → Nat → Nat) (n x : Nat) : List Int := ((List.range n).filter fun y => okB (Rch f n x y)).map fun y : Nat => (y : Int)
noncomputable def orbK (f : Nat → Nat → Nat) (n k : Nat) : List (List Int) := ((List.range k).filter fun x => okB (Ldr f n x)).map (cls f n)
noncomputable def orbT (f : Nat → Nat → Nat) (n : Nat) : List (List Int) := orbK f n n
theorem orbK_yes {f : Nat → Nat → Nat} {n k : Nat} (h : Ldr f n k) : orbK f n (k + 1) = orbK f n k ++ [cls f n k] := by
  unfold orbK; rw [List.range_succ, List.filter_append, List.map_append]; simp [okB_yes h]
theorem orbK_no {f : Nat → Nat → Nat} {n k : Nat} (h : ¬ Ldr f n k) : orbK f n (k + 1) = orbK f n k := by
  unfold orbK; rw [List.range_succ, List.filter_append, List.map_append]; simp [okB_no h]
theorem cls_len (f : Nat → Nat → Nat) (n x : Nat) : (cls f n x).length ≤ n := by
  unfold cls; rw [List.length_map]
  have := List.length_filter_le (fun y => okB (Rch f n x y)) (List.range n)
  rwa [List.length_range] at this
theorem orbK_len (f : Nat → Nat → Nat) (n k : Nat) : (orbK f n k).length ≤ k := by
  unfold orbK; rw [List.length_map]
  have := List.length_filter_le (fun x => okB (Ldr f n x)) (List.range k)
  rwa [List.length_range] at this
/-- What one search leaves. -/
def Post (f : Nat → Nat → Nat) (n x : Nat) (S S' : List Bool) (N : List Nat) : Prop :=
  (∀ v, bth S' v = true ↔ bth S v = true ∨ v ∈ N) ∧ N.Nodup ∧ (∀ v ∈ N, v < n ∧ bth S v ≠ true ∧ Rch f n x v) ∧ bth S' x = true ∧ ∀ v ∈ N, ∀ z, z < n → bth S' (f v z) = true
/-- .. within its round. -/
def Mid (f : Nat → Nat → Nat) (n x : Nat) (S S' : List Bool) (N : List Nat) (i : Nat) : Prop :=
  (∀ v, bth S' v = true ↔ bth S v = true ∨ v ∈ N) ∧ N.Nodup ∧ (∀ v ∈ N, v < n ∧ bth S v ≠ true ∧ Rch f n x v) ∧ x ∈ N ∧ (∀ v ∈ N, v ≠ x → ∀ z, z < n → bth S' (f v z) = true) ∧ ∀ z, z < i → bth S' (f x z) = true
theorem post_seen {f : Nat → Nat → Nat} {n x : Nat} {S : List Bool} (h : bth S x = true) : Post f n x S S [] :=
  ⟨fun v => by simp, List.nodup_nil, fun v h => by simp at h, h, fun v h => by simp at h⟩
theorem bth_mark {S : List Bool} {x : Nat} (hx : x < S.length) (v : Nat) : bth (S.set x true) v = true ↔ bth S v = true ∨ v = x := by
  unfold bth
  rw [List.getD_eq_getElem?_getD, List.getD_eq_getElem?_getD, List.getElem?_set]
  by_cases e : x = v
  · subst e; simp [hx]
  · rw [if_neg e]
    exact ⟨fun h => .inl h, fun h => h.elim id fun g => absurd g.symm e⟩
theorem mid_start {f : Nat → Nat → Nat} {n x : Nat} {S : List Bool} (hx : x < n) (hl : x < S.length) (h : bth S x ≠ true) : Mid f n x S (S.set x true) [x] 0 := by
  refine ⟨fun v => by rw [bth_mark hl, List.mem_singleton], by simp, fun v hv => ?_, by simp, fun v hv hne => absurd (List.mem_singleton.1 hv) hne, fun z hz => absurd hz (Nat.not_lt_zero z)⟩
  obtain rfl := List.mem_singleton.1 hv
  exact ⟨hx, h, .refl _⟩
theorem mid_step {f : Nat → Nat → Nat} {n x i : Nat} {S S' S'' : List Bool} {N N2 : List Nat} (h : Mid f n x S S' N i) (hi : i < n) (g : Post f n (f x i) S' S'' N2) : Mid f n x S S'' (N ++ N2) (i + 1) := by
  obtain ⟨h1, h2, h3, h4, h5, h6⟩ := h
  obtain ⟨g1, g2, g3, g4, g5⟩ := g
  have up : ∀ v, bth S' v = true → bth S'' v = true := fun v hv => (g1 v).2 (.inl hv)
  have hxN2 : ∀ v, v ∈ N → v ∉ N2 := fun v hv hv2 => (g3 v hv2).2.1 ((h1 v).2 (.inr hv))
  refine ⟨fun v => by rw [g1, h1, List.mem_append, or_assoc], ?_, fun v hv => ?_, List.mem_append.2 (.inl h4), fun v hv hne z hz => ?_, fun z hz => ?_⟩
  · rw [List.nodup_append]
    exact ⟨h2, g2, fun a ha b hb e => hxN2 a ha (e ▸ hb)⟩
  · rcases List.mem_append.1 hv with e | e
    · exact h3 v e
    · obtain ⟨k1, k2, k3⟩ := g3 v e
      exact ⟨k1, fun hs => k2 ((h1 v).2 (.inl hs)), .step hi k3⟩
  · rcases List.mem_append.1 hv with e | e
    · exact up _ (h5 v e hne z hz)
    · exact g5 v e z hz
  · rcases Nat.lt_or_ge z i with k | k
    · exact up _ (h6 z k)
    · rw [show z = i by omega]; exact g4
theorem mid_end {f : Nat → Nat → Nat} {n x : Nat} {S S' : List Bool} {N : List Nat} (h : Mid f n x S S' N n) : Post f n x S S' N := by
  obtain ⟨h1, h2, h3, h4, h5, h6⟩ := h
  refine ⟨h1, h2, h3, (h1 x).2 (.inr h4), fun v hv z hz => ?_⟩
  by_cases e : v = x
  · rw [e]; exact h6 z hz
  · exact h5 v hv e z hz
/-- No more than m are unseen. -/
def Fuel (S : List Bool) (n m : Nat) : Prop := ∀ L : List Nat, L.Nodup → (∀ v ∈ L, v < n ∧ bth S v ≠ true) → L.length ≤ m
theorem nodup_len {L : List Nat} {n : Nat} (h : L.Nodup) (hl : ∀ v ∈ L, v < n) : L.length ≤ n := by
  have := h.length_le_of_subset (l₂ := List.range n) fun v hv => List.mem_range.2 (hl v hv)
  rwa [List.length_range] at this
theorem fuel_start (S : List Bool) (n : Nat) : Fuel S n n := fun _ h g => nodup_len h fun v hv => (g v hv).1
theorem fuel_pos {S : List Bool} {n m x : Nat} (h : Fuel S n m) (hx : x < n) (hs : bth S x ≠ true) : 0 < m := by
  have := h [x] (by simp) fun v hv => by obtain rfl := List.mem_singleton.1 hv; exact ⟨hx, hs⟩
  have e : [x].length = 1 := rfl
  omega
theorem fuel_next {S S' : List Bool} {n m x : Nat} (h : Fuel S n (m + 1)) (hx : x < n) (hs : bth S x ≠ true) (up : ∀ v, bth S v = true → bth S' v = true) (hs' : bth S' x = true) : Fuel S' n m := fun L hL hl => by
  have := h (x :: L) (by rw [List.nodup_cons]; exact ⟨fun hm => (hl x hm).2 hs', hL⟩) fun v hv => by
    rcases List.mem_cons.1 hv with e | e
    · rw [e]; exact ⟨hx, hs⟩
    · exact ⟨(hl v e).1, fun g => (hl v e).2 (up v g)⟩
  simpa using this
def Old (S : List Bool) (O : List Nat) (n : Nat) : Prop := O.Nodup ∧ ∀ v ∈ O, v < n ∧ bth S v = true
theorem old_add {S S' : List Bool} {O N : List Nat} {n : Nat} (h : Old S O n) (hs : ∀ v, bth S' v = true ↔ bth S v = true ∨ v ∈ N) (hN : N.Nodup) (hm : ∀ v ∈ N, v < n ∧ bth S v ≠ true) : Old S' (O ++ N) n := by
  refine ⟨?_, fun v hv => ?_⟩
  · rw [List.nodup_append]
    exact ⟨h.1, hN, fun a ha b hb e => (hm b hb).2 (e ▸ (h.2 a ha).2)⟩
  · rcases List.mem_append.1 hv with e | e
    · exact ⟨(h.2 v e).1, (hs v).2 (.inl (h.2 v e).2)⟩
    · exact ⟨(hm v e).1, (hs v).2 (.inr e)⟩
theorem old_len {S : List Bool} {O : List Nat} {n : Nat} (h : Old S O n) : O.length ≤ n := nodup_len h.1 fun v hv => (h.2 v hv).1
/-- The orbits below k were searched. -/
def Sch (f : Nat → Nat → Nat) (n k : Nat) (S : List Bool) : Prop := ∀ v, v < n → (bth S v = true ↔ ∃ u, u < k ∧ Rch f n u v)
theorem sch_skip {f : Nat → Nat → Nat} {n k : Nat} {S : List Bool} (h : Sch f n k S) (hk : k < n) (hs : bth S k = true) : Sch f n (k + 1) S ∧ ¬ Ldr f n k := by
  obtain ⟨u, hu, hr⟩ := (h k hk).1 hs
  refine ⟨fun v hv => ?_, fun g => g u hu hr⟩
  rw [h v hv]
  constructor
  · rintro ⟨a, ha, hr⟩; exact ⟨a, by omega, hr⟩
  · rintro ⟨a, ha, hr2⟩
    rcases Nat.lt_or_ge a k with g | g
    · exact ⟨a, g, hr2⟩
    · obtain rfl : a = k := by omega
      exact ⟨u, hu, hr.trans hr2⟩
theorem sch_take {f : Nat → Nat → Nat} {n k : Nat} {S S' : List Bool} {N : List Nat} (hlt : ∀ x y, x < n → y < n → f x y < n) (hi : IvtN f n) (h : Sch f n k S) (hk : k < n) (hs : bth S k ≠ true) (hp : Post f n k S S' N) :
    Sch f n (k + 1) S' ∧ Ldr f n k ∧ srt (N.map fun y : Nat => (y : Int)) = cls f n k := by
  obtain ⟨p1, p2, p3, p4, p5⟩ := hp
  have hkN : k ∈ N := ((p1 k).1 p4).resolve_left hs
  have hcl : ∀ x y, Rch f n x y → x ∈ N → y ∈ N := fun x y hr => by
    induction hr with
    | refl => exact id
    | @step x z y hz _ ih =>
      intro hx
      refine ih ?_
      have hxn := (p3 x hx).1
      refine ((p1 _).1 (p5 x hx z hz)).resolve_left fun hS => ?_
      obtain ⟨u, hu, hr⟩ := (h _ (hlt x z hxn hz)).1 hS
      exact (p3 x hx).2.1 ((h x hxn).2 ⟨u, hu, hr.trans (Rch.back hlt hi hxn hz)⟩)
  have hN : ∀ v, v ∈ N ↔ v < n ∧ Rch f n k v := fun v => ⟨fun hv => ⟨(p3 v hv).1, (p3 v hv).2.2⟩, fun hv => hcl k v hv.2 hkN⟩
  refine ⟨fun v hv => ?_, fun y hy hr => hs ((h k hk).2 ⟨y, hy, hr⟩), ?_⟩
  · rw [p1, h v hv, hN]
    constructor
    · rintro (⟨u, hu, hr⟩ | ⟨_, hr⟩)
      · exact ⟨u, by omega, hr⟩
      · exact ⟨k, by omega, hr⟩
    · rintro ⟨u, hu, hr⟩
      rcases Nat.lt_or_ge u k with g | g
      · exact .inl ⟨u, g, hr⟩
      · obtain rfl : u = k := by omega
        exact .inr ⟨hv, hr⟩
  · refine srt_eq ?_ ?_
    · unfold cls
      refine List.Perm.map _ ?_
      rw [List.perm_ext_iff_of_nodup (List.nodup_range.sublist List.filter_sublist) p2]
      intro v
      rw [List.mem_filter, List.mem_range, okB_iff, hN]
    · unfold cls
      rw [List.pairwise_map]
      exact (List.pairwise_lt_range.sublist List.filter_sublist).imp fun h => by omega
/-- Labels. -/
def lb (L : List Nat) (x : Nat) : Nat := L.getD x 0
def Lab (f : Nat → Nat → Nat) (n : Nat) (L : List Nat) : Prop := L.length = n ∧ ∀ x, x < n → lb L x ≤ x ∧ Rch f n x (lb L x)
theorem lab_start (f : Nat → Nat → Nat) (n : Nat) : Lab f n (List.range n) := ⟨List.length_range, fun x hx => by
  have : lb (List.range n) x = x := by simp [lb, hx]
  rw [this]; exact ⟨Nat.le_refl _, .refl _⟩⟩
theorem lb_set {L : List Nat} {a m : Nat} (ha : a < L.length) (v : Nat) : lb (L.set a m) v = if v = a then m else lb L v := by
  unfold lb
  rw [List.getD_eq_getElem?_getD, List.getD_eq_getElem?_getD, List.getElem?_set]
  by_cases e : v = a
  · subst e; simp [ha]
  · rw [if_neg (fun g => e g.symm), if_neg e]
theorem lab_set {f : Nat → Nat → Nat} {n : Nat} {L : List Nat} (h : Lab f n L) {a m : Nat} (ha : a < n) (hm : m ≤ a) (hr : Rch f n a m) : Lab f n (L.set a m) := by
  refine ⟨by rw [List.length_set]; exact h.1, fun x hx => ?_⟩
  rw [lb_set (by rw [h.1]; exact ha)]
  split
  · subst x; exact ⟨hm, hr⟩
  · exact h.2 x hx
theorem sum_set : ∀ {L : List Nat} {a m : Nat}, a < L.length → (L.set a m).sum + lb L a = L.sum + m
  | [], _, _, h => by simp at h
  | x :: L, 0, m, _ => by simp [lb]; omega
  | x :: L, a + 1, m, h => by
    have := sum_set (L := L) (a := a) (m := m) (by simpa using h)
    simp only [List.set_cons_succ, List.sum_cons, lb, List.getD_cons_succ] at this ⊢
    omega
theorem lab_step {f : Nat → Nat → Nat} {n x y : Nat} {L : List Nat} (hlt : ∀ x y, x < n → y < n → f x y < n) (hi : IvtN f n) (h : Lab f n L) (hx : x < n) (hy : y < n) (hne : lb L x ≠ lb L (f x y)) :
    Lab f n ((L.set x (min (lb L x) (lb L (f x y)))).set (f x y) (min (lb L x) (lb L (f x y)))) ∧ ((L.set x (min (lb L x) (lb L (f x y)))).set (f x y) (min (lb L x) (lb L (f x y)))).sum < L.sum := by
  have hb := hlt x y hx hy
  obtain ⟨a1, a2⟩ := h.2 x hx
  obtain ⟨b1, b2⟩ := h.2 _ hb
  have hxb : x ≠ f x y := fun e => hne (by rw [← e])
  obtain ⟨m, hm⟩ : ∃ m, m = min (lb L x) (lb L (f x y)) := ⟨_, rfl⟩
  rw [← hm]
  have e1 : m ≤ lb L x := by omega
  have e2 : m ≤ lb L (f x y) := by omega
  have hra : Rch f n x m := by
    rcases Nat.le_total (lb L x) (lb L (f x y)) with g | g
    · rw [show m = lb L x by omega]; exact a2
    · rw [show m = lb L (f x y) by omega]; exact .step hy b2
  have hrb : Rch f n (f x y) m := (Rch.back hlt hi hx hy).trans hra
  refine ⟨lab_set (lab_set h hx (by omega) hra) hb (by omega) hrb, ?_⟩
  have s1 := sum_set (L := L) (a := x) (m := m) (by rw [h.1]; exact hx)
  have s2 := sum_set (L := L.set x m) (a := f x y) (m := m) (by rw [List.length_set, h.1]; exact hb)
  rw [lb_set (by rw [h.1]; exact hx), if_neg (fun e => hxb e.symm)] at s2
  omega
/-- The labels have settled. -/
theorem lab_end {f : Nat → Nat → Nat} {n : Nat} {L : List Nat} (hlt : ∀ x y, x < n → y < n → f x y < n) (hi : IvtN f n) (h : Lab f n L) (he : ∀ x, x < n → ∀ y, y < n → lb L x = lb L (f x y)) {k x : Nat} (hk : k < n) (hx : x < n) : lb L x = k ↔ Ldr f n k ∧ Rch f n k x := by
  have hc : ∀ u v, Rch f n u v → u < n → lb L u = lb L v := fun u v hr => by
    induction hr with
    | refl => exact fun _ => rfl
    | @step u z v hz _ ih => exact fun hu => (he u hu z hz).trans (ih (hlt u z hu hz))
  constructor
  · intro e
    obtain ⟨h1, h2⟩ := h.2 x hx
    rw [e] at h1 h2
    have hkx := h2.symm hlt hi hx
    refine ⟨fun y hy hr => ?_, hkx⟩
    have h3 := hc y k hr (by omega)
    have h4 := hc k x hkx hk
    have h5 := (h.2 y (by omega)).1
    omega
  · rintro ⟨hl, hr⟩
    have h4 := hc k x hr hk
    obtain ⟨h1, h2⟩ := h.2 k hk
    have : ¬ lb L k < k := fun g => hl _ g (h2.symm hlt hi hk)
    omega
/-- The members below j of the label k. -/
def labK (L : List Nat) (k j : Nat) : List Int := ((List.range j).filter fun x => lb L x == k).map fun x : Nat => (x : Int)
theorem labK_yes {L : List Nat} {k j : Nat} (h : lb L j = k) : labK L k (j + 1) = labK L k j ++ [(j : Int)] := by
  unfold labK; rw [List.range_succ, List.filter_append, List.map_append]; simp [h]
theorem labK_no {L : List Nat} {k j : Nat} (h : lb L j ≠ k) : labK L k (j + 1) = labK L k j := by
  unfold labK; rw [List.range_succ, List.filter_append, List.map_append]; simp [h]
theorem labK_len (L : List Nat) (k j : Nat) : (labK L k j).length ≤ j := by
  unfold labK; rw [List.length_map]
  have := List.length_filter_le (fun x => lb L x == k) (List.range j)
  rwa [List.length_range] at this
theorem labK_end {f : Nat → Nat → Nat} {n : Nat} {L : List Nat} (hlt : ∀ x y, x < n → y < n → f x y < n) (hi : IvtN f n) (h : Lab f n L) (he : ∀ x, x < n → ∀ y, y < n → lb L x = lb L (f x y)) {k : Nat} (hk : k < n) :
    (0 < (labK L k n).length ↔ Ldr f n k) ∧ (Ldr f n k → labK L k n = cls f n k) := by
  have e : ∀ x, x < n → (lb L x = k ↔ Ldr f n k ∧ Rch f n k x) := fun x hx => lab_end hlt hi h he hk hx
  refine ⟨?_, fun hl => ?_⟩
  · rw [List.length_pos_iff_exists_mem]
    constructor
    · rintro ⟨a, ha⟩
      obtain ⟨x, hx, rfl⟩ := List.mem_map.1 ha
      rw [List.mem_filter, List.mem_range, beq_iff_eq] at hx
      exact ((e x hx.1).1 hx.2).1
    · intro hl
      exact ⟨(k : Int), List.mem_map.2 ⟨k, by rw [List.mem_filter, List.mem_range, beq_iff_eq]; exact ⟨hk, (e k hk).2 ⟨hl, .refl _⟩⟩, rfl⟩⟩
  · unfold labK cls
    congr 1
    refine List.filter_congr fun x hx => ?_
    rw [List.mem_range] at hx
    rw [Bool.eq_iff_iff, beq_iff_eq, okB_iff, e x hx]
    exact ⟨fun g => g.2, fun g => ⟨hl, g⟩⟩
end Go.Proofs.YtlgiponfcmeiiaaDoor
