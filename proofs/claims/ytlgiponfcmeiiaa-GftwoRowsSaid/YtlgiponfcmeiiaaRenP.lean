/- Plain: what renaming the columns does to a row. -/
import Derived.Test.YtlgiponfcmeiiaaTotW
import Derived.Test.YtlgiponfcmeiiaaStE
import Derived.Test.YtlgiponfcmeiiaaSortW
namespace Go.Proofs.Ytlgiponfcmeiiaa
open Go Go.RowKit
theorem tabN_getD {C : Nat} {xs : List Nat} {i : Nat} (h : i < xs.length) : (tabN C xs).getD i [] = rowOf C (xs.getD i 0) := by
  rw [List.getD_eq_getElem?_getD, tabN_get h]; rfl
theorem map_getD (f : Nat → Nat) {xs : List Nat} {i : Nat} (h : i < xs.length) : (xs.map f).getD i 0 = f (xs.getD i 0) := by
  rw [List.getD_eq_getElem?_getD, List.getD_eq_getElem?_getD, List.getElem?_map, List.getElem?_eq_getElem h]; rfl
/-- 0, 1, .. n - 1. -/
def iota (n : Nat) : List Int := (List.range n).map Int.ofNat
theorem iota_len (n : Nat) : (iota n).length = n := by simp [iota]
theorem iota_nth {n i : Nat} (h : i < n) : nth (iota n) i = i := by simp [nth, iota, h]
theorem iota_mem {n : Nat} {x : Int} : x ∈ iota n ↔ 0 ≤ x ∧ x < n := by
  unfold iota
  rw [List.mem_map]
  constructor
  · rintro ⟨k, hk, rfl⟩
    exact ⟨Int.natCast_nonneg k, Int.ofNat_lt.2 (List.mem_range.1 hk)⟩
  · rintro ⟨h1, h2⟩
    exact ⟨x.toNat, List.mem_range.2 (by omega), by show ((x.toNat : Nat) : Int) = x; omega⟩
theorem iota_nodup (n : Nat) : (iota n).Nodup := by
  unfold iota List.Nodup
  rw [List.pairwise_map]
  exact List.Pairwise.imp (fun {a b} h e => Nat.ne_of_lt h (Int.ofNat_inj.1 e)) List.pairwise_lt_range
/-- The order under way. -/
def ordL (n k : Nat) : List Int := (List.range n).map fun i => if i < k then (i : Int) else 0
theorem ordL_len (n k : Nat) : (ordL n k).length = n := by simp [ordL]
theorem ordL_nth {n k i : Nat} (h : i < n) : nth (ordL n k) i = if i < k then (i : Int) else 0 := by simp [nth, ordL, h]
theorem ordL_zero (n : Nat) : List.replicate n 0 = ordL n 0 := ext_nth (by simp [ordL]) fun i hi => by
  rw [List.length_replicate] at hi
  rw [ordL_nth hi, if_neg (by omega)]; simp [nth, hi]
theorem ordL_all (n : Nat) : ordL n n = iota n := ext_nth (by rw [ordL_len, iota_len]) fun i hi => by
  rw [ordL_len] at hi
  rw [ordL_nth hi, if_pos hi, iota_nth hi]
theorem ordL_set {n k : Nat} (h : k < n) : (ordL n k).set k (k : Int) = ordL n (k + 1) := ext_nth (by rw [List.length_set, ordL_len, ordL_len]) fun i hi => by
  rw [List.length_set, ordL_len] at hi
  rw [nth_set _ _ _ _ (by rw [ordL_len]; exact h), ordL_nth hi, ordL_nth hi]
  by_cases e : k = i
  · rw [if_pos e, if_pos (by omega), e]
  · rw [if_neg e]
    by_cases g : i < k
    · rw [if_pos g, if_pos (by omega)]
    · rw [if_neg g, if_neg (by omega)]
/-- The places of an order. -/
theorem order_names {n : Nat} {ys : List Int} (hp : ys.Perm (iota n)) {vs : List Int} (hv : ∀ i, i < n → nth vs (nth ys i).toNat = i) :
    ∃ p : Nat → Nat, (∀ i, i < n → p i < n) ∧ (∀ i k, i < n → k < n → p i = p k → i = k) ∧ ∀ i, i < n → nth vs i = (p i : Nat) := by
  have hyl : ys.length = n := by rw [hp.length_eq, iota_len]
  have hs : ∀ c, c < n → ∃ i, i < n ∧ nth ys i = (c : Int) := fun c hc => by
    obtain ⟨i, hi, he⟩ := mem_nth (hp.mem_iff.2 (iota_mem.2 ⟨by omega, Int.ofNat_lt.2 hc⟩))
    exact ⟨i, by omega, he⟩
  refine ⟨fun c => (nth vs c).toNat, fun c hc => ?_, fun c d hc hd e => ?_, fun c hc => ?_⟩
  · obtain ⟨i, hi, he⟩ := hs c hc
    have := hv i hi
    rw [he, Int.toNat_natCast] at this
    show (nth vs c).toNat < n
    omega
  · obtain ⟨i, hi, hie⟩ := hs c hc
    obtain ⟨j, hj, hje⟩ := hs d hd
    have h1 := hv i hi
    have h2 := hv j hj
    rw [hie, Int.toNat_natCast] at h1
    rw [hje, Int.toNat_natCast] at h2
    have e : (nth vs c).toNat = (nth vs d).toNat := e
    have : i = j := by omega
    subst this
    rw [hie] at hje
    exact Int.ofNat_inj.1 hje
  · obtain ⟨i, hi, he⟩ := hs c hc
    have := hv i hi
    rw [he, Int.toNat_natCast] at this
    show nth vs c = (((nth vs c).toNat : Nat) : Int)
    omega
/-- A row whose columns are renamed. -/
def renL (vs : List Int) (row : List Int) : List Int := row.map fun c => nth vs c.toNat
theorem srt_ren {n : Nat} {vs : List Int} {p : Nat → Nat} (h1 : ∀ i, i < n → p i < n) (h2 : ∀ i k, i < n → k < n → p i = p k → i = k) (h3 : ∀ i, i < n → nth vs i = (p i : Nat)) (x : Nat) :
    srt (renL vs (rowOf n x)) = rowOf n (lin (fun i => 2 ^ p i) n x) := by
  refine srt_eq ?_ (rowOf_asc n _).1
  have hL : renL vs (rowOf n x) = (rowN n x).map fun k => ((p k : Nat) : Int) := by
    unfold renL rowOf
    rw [List.map_map]
    refine List.map_congr_left fun k hk => ?_
    have := h3 k (mem_rowN.1 hk).1
    simpa using this
  rw [hL]
  refine (List.perm_ext_iff_of_nodup ((rowOf_asc n _).1.imp fun h => by omega) ?_).2 fun c => ?_
  · unfold List.Nodup
    rw [List.pairwise_map]
    have hn : (rowN n x).Nodup := List.Pairwise.filter _ List.nodup_range
    refine hn.imp_of_mem fun {a b} ha hb hne e => hne (h2 a b (mem_rowN.1 ha).1 (mem_rowN.1 hb).1 (Int.ofNat_inj.1 e))
  · unfold rowOf
    rw [List.mem_map, List.mem_map]
    constructor
    · rintro ⟨k, hk, rfl⟩
      obtain ⟨i, hi, rfl⟩ := (mem_renamed h2 h1 x k).1 hk
      exact ⟨i, hi, rfl⟩
    · rintro ⟨i, hi, rfl⟩
      exact ⟨p i, (mem_renamed h2 h1 x (p i)).2 ⟨i, hi, rfl⟩, rfl⟩
theorem renL_snoc (vs row : List Int) (j : Nat) (h : j < row.length) : renL vs (row.take (j + 1)) = renL vs (row.take j) ++ [nth vs (nth row j).toNat] := by
  unfold renL
  rw [List.take_succ_eq_append_getElem h, List.map_append]
  simp [nth, h]
theorem names_step {n : Nat} {ys vs : List Int} (hp : ys.Perm (iota n)) (hl : vs.length = n) {k : Nat} (hk : k < n) (hv : ∀ i, i < k → nth vs (nth ys i).toNat = i) : ∀ i, i < k + 1 → nth (vs.set (nth ys k).toNat (k : Int)) (nth ys i).toNat = i := by
  have hyl : ys.length = n := by rw [hp.length_eq, iota_len]
  have hr : ∀ i, i < n → 0 ≤ nth ys i ∧ nth ys i < n := fun i hi => iota_mem.1 (hp.mem_iff.1 (nth_mem ys i (by omega)))
  have hnd : ys.Nodup := hp.nodup_iff.2 (iota_nodup n)
  intro i hi
  have h1 := hr k hk
  have h2 := hr i (by omega)
  rw [nth_set _ _ _ _ (by omega)]
  by_cases e : i = k
  · subst e; rw [if_pos rfl]
  · have hne : nth ys k ≠ nth ys i := fun g => by
      have a1 : ys[k]'(by omega) = ys[i]'(by omega) := by simpa [nth, show k < ys.length by omega, show i < ys.length by omega] using g
      have hpw := List.pairwise_iff_getElem.1 hnd
      rcases Nat.lt_or_gt_of_ne e with g | g
      · exact hpw i k (by omega) (by omega) g a1.symm
      · exact hpw k i (by omega) (by omega) g a1
    rw [if_neg (by omega)]
    exact hv i (by omega)
end Go.Proofs.Ytlgiponfcmeiiaa
