/- Plain law: what the loop of the reference's ReverseOne computes. -/
import Derived.Test.YtkopbcehfbmnmaaFlagB
import Derived.Test.YtkopbcehfbmnmaaSameA
import Derived.Test.YtkopbcehfbmnmaaRTab
namespace Go.Proofs.Ytkopbcehfbmnmaa
open Go Go.RowKit
/-- The flag behind the passages P. -/
def flF (n p : Nat) (P : List Nat) (c : Nat) : Bool := bth (P.foldl (setF p) (List.replicate n false)) c
theorem flF_snoc (n p : Nat) (P : List Nat) (h c : Nat) (hc : c < n) : flF n p (P ++ [h]) c = (flF n p P c || decide (h / 4 = c ∧ h % 2 = p)) := by
  unfold flF
  rw [List.foldl_append]
  exact setF_at p _ h c (by rw [foldF_len]; simpa using hc)
theorem flF_nil (n p c : Nat) (hc : c < n) : flF n p [] c = false := by simp [flF, bth, hc]
theorem flF_any (n p : Nat) (P : List Nat) (c : Nat) (hc : c < n) : flF n p P c = P.any fun h => decide (h / 4 = c ∧ h % 2 = p) := by
  unfold flF
  rw [foldF_at p c P _ (by simpa using hc)]
  have : bth (List.replicate n false) c = false := by simp [bth, hc]
  rw [this, Bool.false_or]
/-- The reference's lists behind the passages P. -/
def roS (S : List Int) (P : List Nat) : List Int := lst S.length fun c => nth S c * (if flF S.length 0 P c = flF S.length 1 P c then 1 else -1)
def roT (S : List Int) (P : List Nat) : List Int := lst S.length fun c => if flF S.length 0 P c = true then 2 else 0
theorem roS_nil (S : List Int) : roS S [] = S := (lst_ext rfl fun c hc => by rw [flF_nil _ _ _ hc, flF_nil _ _ _ hc, if_pos rfl, Int.mul_one]).symm
theorem roT_nil (S : List Int) : roT S [] = List.replicate S.length 0 := (lst_ext (by simp) fun c hc => by rw [flF_nil _ _ _ hc, if_neg (by decide)]; simp [nth, hc]).symm
theorem roS_at (S : List Int) (P : List Nat) {c : Nat} (hc : c < S.length) : nth (roS S P) c = nth S c * (if flF S.length 0 P c = flF S.length 1 P c then 1 else -1) := lst_nth hc
theorem roS_step (S : List Int) (P : List Nat) (h : Nat) (hc : h / 4 < S.length) (hn : flF S.length (h % 2) P (h / 4) = false) : (roS S P).set (h / 4) (-(nth (roS S P) (h / 4))) = roS S (P ++ [h]) := by
  refine lst_set hc ?_ fun c hc2 hne => ?_
  · rw [roS_at S P hc, flF_snoc _ _ _ _ _ hc, flF_snoc _ _ _ _ _ hc]
    rcases (show h % 2 = 0 ∨ h % 2 = 1 from by omega) with e | e
    · rw [e] at hn ⊢
      have t1 : decide (h / 4 = h / 4 ∧ (0 : Nat) = 0) = true := by simp
      have t2 : decide (h / 4 = h / 4 ∧ (0 : Nat) = 1) = false := by simp
      rw [hn, t1, t2, Bool.or_false]
      cases flF S.length 1 P (h / 4) <;> simp
    · rw [e] at hn ⊢
      have t1 : decide (h / 4 = h / 4 ∧ (1 : Nat) = 1) = true := by simp
      have t2 : decide (h / 4 = h / 4 ∧ (1 : Nat) = 0) = false := by simp
      rw [hn, t1, t2, Bool.or_false]
      cases flF S.length 0 P (h / 4) <;> simp
  · rw [flF_snoc _ _ _ _ _ hc2, flF_snoc _ _ _ _ _ hc2, decide_eq_false (fun k => hne k.1.symm), decide_eq_false (fun k => hne k.1.symm), Bool.or_false, Bool.or_false]
theorem roT_two (S : List Int) (P : List Nat) (h : Nat) (hc : h / 4 < S.length) (h2 : h % 4 = 2) : (roT S P).set (h / 4) 2 = roT S (P ++ [h]) := by
  refine lst_set hc ?_ fun c hc2 hne => ?_
  · rw [flF_snoc _ _ _ _ _ hc, decide_eq_true ⟨rfl, by omega⟩, Bool.or_true, if_pos rfl]
  · rw [flF_snoc _ _ _ _ _ hc2, decide_eq_false (fun k => hne k.1.symm), Bool.or_false]
theorem roT_odd (S : List Int) (P : List Nat) (h : Nat) (h2 : h % 2 = 1) : roT S P = roT S (P ++ [h]) := lst_congr fun c hc => by
  rw [flF_snoc _ _ _ _ _ hc, decide_eq_false (fun k => by omega), Bool.or_false]
section
variable {S M : List Int} {L : Int} (hv : vldB S M L = true) {i : Nat} {l : List Nat} (hl : (strandsL S M L)[i]? = some l)
include hv hl
/-- A passage of a strand: an outgoing half-edge; no other one of the strand lies there. -/
theorem strand_out {k : Nat} (hk : k < l.length) : l[k] < 4 * S.length ∧ outB S l[k] = true := by
  have hs := vldB_shape hv
  rw [strandsL_leasts hv, List.getElem?_map] at hl
  obtain ⟨r, hr, rfl⟩ := Option.map_eq_some_iff.1 hl
  have hm : r ∈ leasts S M := List.mem_of_getElem? hr
  have := (mem_strand hs hm).1 (List.getElem_mem hk)
  exact ⟨this.1, this.2.1⟩
theorem strand_nodup : l.Nodup := by
  have hs := vldB_shape hv
  rw [strandsL_leasts hv, List.getElem?_map] at hl
  obtain ⟨r, hr, rfl⟩ := Option.map_eq_some_iff.1 hl
  have hm : r ∈ leasts S M := List.mem_of_getElem? hr
  have hrl := ((mem_leasts hs).1 hm).1
  exact orb_nodup hs.injS hrl (hs.perS r hrl)
theorem strand_new {k : Nat} (hk : k < l.length) : flF S.length (l[k] % 2) (l.take k) (l[k] / 4) = false := by
  have hs := vldB_shape hv
  obtain ⟨a1, a2⟩ := strand_out hv hl hk
  rw [flF_any _ _ _ _ (by omega), Bool.eq_false_iff]
  intro h
  rw [List.any_eq_true] at h
  obtain ⟨x, hx, hd⟩ := h
  obtain ⟨d1, d2⟩ := of_decide_eq_true hd
  obtain ⟨j, hj, rfl⟩ := List.getElem_of_mem hx
  rw [List.length_take] at hj
  rw [List.getElem_take] at d1 d2
  obtain ⟨b1, b2⟩ := strand_out hv hl (k := j) (by omega)
  have he := out_one hs b1 d1 d2 b2 a2
  exact List.pairwise_iff_getElem.1 (strand_nodup hv hl) j k (by omega) hk (by omega) he
theorem strand_slot {k : Nat} (hk : k < l.length) (h2 : l[k] % 2 = 0) : l[k] % 4 = 2 := by
  have hs := vldB_shape hv
  obtain ⟨a1, a2⟩ := strand_out hv hl hk
  rcases (show l[k] % 4 = 0 ∨ l[k] % 4 = 2 from by omega) with e | e
  · rw [outB_0 S _ e] at a2; cases a2
  · exact e
theorem roS_all : roS S l = mulS S (r1S S M i) := (lst_ext (mulS_len _ _) fun c hc => by
  rw [nth_mulS _ _ _ hc]
  unfold flF r1S
  rw [flag_u hv hl hc, flag_o hv hl hc]).symm
theorem roT_all : roT S l = lst S.length (r1B S M i) := lst_congr fun c hc => by
  unfold flF r1B
  rw [flag_u hv hl hc]
end
section
variable {S M : List Int} {L : Int} (hv : vldB S M L = true) {i : Nat} (hi : (strandsL S M L).length ≤ i)
include hv hi
theorem none_flags {c : Nat} (hc : c < S.length) : uB S M i c = false ∧ oB S M i c = false := by
  have hs := vldB_shape hv
  rw [strandsL_leasts hv, List.length_map] at hi
  have h1 := ix_lt hs (x := 4 * c + 2) (by omega)
  have h2 := ix_lt hs (x := 4 * c + 1) (by omega)
  exact ⟨decide_eq_false (by omega), decide_eq_false (by omega)⟩
theorem roS_none : S = mulS S (r1S S M i) := ext_nth (mulS_len _ _).symm fun c hc => by
  rw [nth_mulS _ _ _ hc]
  unfold r1S
  rw [(none_flags hv hi hc).1, (none_flags hv hi hc).2, if_pos rfl, Int.mul_one]
theorem roT_none : List.replicate S.length 0 = lst S.length (r1B S M i) := lst_ext (by simp) fun c hc => by
  unfold r1B
  rw [(none_flags hv hi hc).1, if_neg (by decide)]
  simp [nth, hc]
end
theorem roT_move {S M : List Int} {L : Int} (hs : Shape S M L) (i : Nat) : mvL (rturn (lst S.length (r1B S M i))) M = mvL (trn (r1B S M i)) M := mvL_congr hs.len (fun x hx => hs.mt_lt hx) fun x hx => by
  unfold rturn trn
  rw [lst_nth (by omega)]
end Go.Proofs.Ytkopbcehfbmnmaa
