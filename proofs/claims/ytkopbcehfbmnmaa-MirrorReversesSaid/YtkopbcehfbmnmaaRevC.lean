/- Plain law: the passages of a strand identify it, however many strands are reversed. -/
import Derived.Test.YtkopbcehfbmnmaaRoneR
import Derived.Test.YtkopbcehfbmnmaaRevB
namespace Go.Proofs.Ytkopbcehfbmnmaa
open Go Go.RowKit
/-- The passages of a strand; a list of numbers in order. -/
def psV (h : Nat) : Int := ((2 * (h / 4) + h % 2 : Nat) : Int)
def psg (l : List Nat) : List Int := l.map psV
def srt (xs : List Int) : List Int := xs.mergeSort fun x y => decide (x ≤ y)
theorem psg_len (l : List Nat) : (psg l).length = l.length := by simp [psg]
theorem srt_len (xs : List Int) : (srt xs).length = xs.length := by simp [srt]
theorem srt_iff (a b : List Int) : srt a = srt b ↔ a.Perm b := by
  have hp : ∀ l : List Int, (srt l).Perm l := fun l => List.mergeSort_perm l _
  have hs : ∀ l : List Int, List.Pairwise (fun x y : Int => decide (x ≤ y) = true) (srt l) := fun l => List.pairwise_mergeSort (le := fun x y : Int => decide (x ≤ y)) (fun x y z h1 h2 => decide_eq_true (Int.le_trans (of_decide_eq_true h1) (of_decide_eq_true h2))) (fun x y => by
    show (decide (x ≤ y) || decide (y ≤ x)) = true
    rw [Bool.or_eq_true, decide_eq_true_eq, decide_eq_true_eq]; omega) l
  constructor
  · intro e
    exact (hp a).symm.trans (e ▸ hp b)
  · intro h
    exact List.Perm.eq_of_pairwise (le := fun x y : Int => decide (x ≤ y) = true) (fun x y _ _ h1 h2 => Int.le_antisymm (of_decide_eq_true h1) (of_decide_eq_true h2)) (hs a) (hs b) ((hp a).trans (h.trans (hp b).symm))
section
variable {S M : List Int} {L : Int} (hv : vldB S M L = true) {i : Nat} {l : List Nat} (hl : (strandsL S M L)[i]? = some l)
include hv hl
theorem psg_nodup : (psg l).Nodup := by
  have hs := vldB_shape hv
  unfold List.Nodup
  rw [List.pairwise_iff_getElem]
  intro j k hj hk hjk e
  rw [psg_len] at hj hk
  simp only [psg, List.getElem_map] at e
  have e : psV l[j] = psV l[k] := e
  unfold psV at e
  obtain ⟨a1, a2⟩ := strand_out hv hl hj
  obtain ⟨b1, b2⟩ := strand_out hv hl hk
  have := out_one hs a1 (show l[j] / 4 = l[k] / 4 by omega) (by omega) a2 b2
  exact List.pairwise_iff_getElem.1 (strand_nodup hv hl) j k hj hk hjk this
theorem psg_in {c p : Nat} (hp : p = 0 ∨ p = 1) (hc : c < S.length) : ((2 * c + p : Nat) : Int) ∈ psg l ↔ ix S M (4 * c + 2 - p) = i := by
  have h1 := flag_any hv hl hp hc
  have h2 := flF_any S.length p l c hc
  unfold flF at h2
  rw [h2] at h1
  rw [← decide_eq_true_iff (p := ix S M (4 * c + 2 - p) = i), ← h1, List.any_eq_true]
  unfold psg
  rw [List.mem_map]
  constructor
  · rintro ⟨h, hm, e⟩
    unfold psV at e
    exact ⟨h, hm, decide_eq_true (by omega)⟩
  · rintro ⟨h, hm, e⟩
    have := of_decide_eq_true e
    refine ⟨h, hm, ?_⟩
    unfold psV
    omega
theorem psg_is {a : Int} (ha : a ∈ psg l) : ∃ c p, (p = 0 ∨ p = 1) ∧ c < S.length ∧ a = ((2 * c + p : Nat) : Int) := by
  unfold psg at ha
  rw [List.mem_map] at ha
  obtain ⟨h, hm, rfl⟩ := ha
  obtain ⟨k, hk, rfl⟩ := List.getElem_of_mem hm
  obtain ⟨a1, _⟩ := strand_out hv hl hk
  exact ⟨l[k] / 4, l[k] % 2, by omega, by omega, rfl⟩
/-- A half-edge of the strand. -/
theorem strand_has : ∃ x, x < 4 * S.length ∧ ix S M x = i := by
  have hs := vldB_shape hv
  rw [strandsL_leasts hv, List.getElem?_map] at hl
  obtain ⟨r, hr, rfl⟩ := Option.map_eq_some_iff.1 hl
  obtain ⟨r1, _, r3⟩ := (mem_leasts hs).1 (List.mem_of_getElem? hr)
  exact ⟨r, r1, (ix_iff hs r1).2 (by rw [r3]; exact hr)⟩
end
theorem psg_same {S M S' M' : List Int} {L L' : Int} (hv : vldB S M L = true) (hv' : vldB S' M' L' = true) (hn : S'.length = S.length) {i j k : Nat} {l l' : List Nat} (hl : (strandsL S M L)[i]? = some l) (hl' : (strandsL S' M' L')[k]? = some l')
    (hj : ∀ x, x < 4 * S.length → (ix S' M' x = j ↔ ix S M x = i)) : srt (psg l) = srt (psg l') ↔ k = j := by
  rw [srt_iff, List.perm_ext_iff_of_nodup (psg_nodup hv hl) (psg_nodup hv' hl')]
  constructor
  · intro h
    obtain ⟨x, hx, he⟩ := strand_has hv hl
    obtain ⟨p, hp⟩ : ∃ p, p = x % 2 := ⟨_, rfl⟩
    have hp2 : p = 0 ∨ p = 1 := by omega
    have hc : x / 4 < S.length := by omega
    have h1 : ix S M (4 * (x / 4) + 2 - p) = i := by rw [← he]; exact ix_par hv (by omega) (by omega) (by omega)
    have h2 := (h _).1 ((psg_in hv hl hp2 hc).2 h1)
    have h3 := (psg_in hv' hl' hp2 (by omega)).1 h2
    have h4 := (hj (4 * (x / 4) + 2 - p) (by omega)).2 h1
    omega
  · rintro rfl a
    constructor
    · intro ha
      obtain ⟨c, p, hp, hc, rfl⟩ := psg_is hv hl ha
      have h1 := (psg_in hv hl hp hc).1 ha
      exact (psg_in hv' hl' hp (by omega)).2 ((hj _ (by omega)).2 h1)
    · intro ha
      obtain ⟨c, p, hp, hc, rfl⟩ := psg_is hv' hl' ha
      have h1 := (psg_in hv' hl' hp hc).1 ha
      exact (psg_in hv hl hp (by omega)).2 ((hj _ (by omega)).1 h1)
/-- The strands below i reversed. -/
def bl (i k : Nat) : Bool := decide (k < i)
theorem bl_more (i : Nat) : (fun k => bl i k || decide (k = i)) = bl (i + 1) := by
  funext k
  unfold bl
  by_cases h : k < i
  · rw [decide_eq_true h, decide_eq_true (show k < i + 1 by omega)]; rfl
  · rw [decide_eq_false h, Bool.false_or, decide_eq_decide]; omega
theorem rev_zero {S M : List Int} {L : Int} (hv : vldB S M L = true) : rvS S M (bl 0) = S ∧ rvM S M (bl 0) = M := rA_none hv (bl 0) fun k _ => decide_eq_false (by omega)
theorem rev_more {S M : List Int} {L : Int} (hv : vldB S M L = true) (i : Nat) (hi : i < (strandsL S M L).length) : ∃ j, j < (strandsL (rvS S M (bl i)) (rvM S M (bl i)) L).length ∧ (∀ k l l', (strandsL S M L)[i]? = some l → (strandsL (rvS S M (bl i)) (rvM S M (bl i)) L)[k]? = some l' → (srt (psg l) = srt (psg l') ↔ k = j)) ∧
    mulS (rvS S M (bl i)) (r1S (rvS S M (bl i)) (rvM S M (bl i)) j) = rvS S M (bl (i + 1)) ∧ mvL (trn (r1B (rvS S M (bl i)) (rvM S M (bl i)) j)) (rvM S M (bl i)) = rvM S M (bl (i + 1)) := by
  have hi' : i < (leasts S M).length := by rw [strandsL_leasts hv, List.length_map] at hi; exact hi
  have hv1 := rA_valid hv (bl i)
  obtain ⟨j, j1, j2⟩ := rA_find hv (bl i) hi'
  have hm := rA_more hv (bl i) (show bl i i = false from decide_eq_false (by omega)) j2
  rw [bl_more] at hm
  exact ⟨j, by rw [strandsL_leasts hv1, List.length_map]; exact j1, fun k l l' hl hl' => psg_same hv hv1 (rvS_len S M _) hl hl' j2, hm.1, hm.2⟩
theorem rev_all {S M : List Int} {L : Int} (hv : vldB S M L = true) : rvS S M (bl (strandsL S M L).length) = mulS S (fun _ => 1) ∧ rvM S M (bl (strandsL S M L).length) = mvL (trn fun _ => 2) M :=
  rA_all hv _ fun k hk => decide_eq_true (by rw [strandsL_leasts hv, List.length_map]; exact hk)
end Go.Proofs.Ytkopbcehfbmnmaa
