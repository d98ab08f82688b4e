/- Plain law: two crossings smoothed in either order: the number of loops. -/
import Derived.Test.YtkopbcehfbmnmaaCrossA
namespace Go.Proofs.Ytkopbcehfbmnmaa
open Go Go.RowKit
theorem out_stp {S M : List Int} {L : Int} (hs : Shape S M L) {c : Nat} (hc : c < S.length) {x : Nat} (hx : x < 4 * S.length) : outB S (stp M (pS S c) c 2 x) = outB S x := by
  have hmx := hs.mt_lt hx
  unfold stp
  split
  · rename_i h; rw [out_jn hs hc h, hs.out_mt hx]; simp
  · rw [hs.out_tn2 _ hmx, hs.out_mt hx]; simp
theorem new_nc {S M : List Int} {L : Int} (hs : Shape S M L) {c : Nat} (hc : c < S.length) : nc (OnOrb (stp M (pS S c) c 2)) (fun x => inn M (pS S c) c x && outB S x) (4 * S.length) = newL M (pS S c) c := by
  have hm := hs.mates2
  have hp := pS_pp S c
  rw [← newL_nc hm hp hc, ← loops_dir hm hp (sm_way hs hc) 2 (by omega) true]
  exact nc_congr fun x _ => by cases outB S x <;> cases inn M (pS S c) c x <;> rfl
/-- The strands of the joined steps: the new loops, and the strands behind the smoothing. -/
theorem sm_nc {S M : List Int} {L : Int} (hs : Shape S M L) {c : Nat} (hc : c < S.length) (hs' : Shape (smS S c) (smM S M c) L) :
    nc (OnOrb (stp M (pS S c) c 2)) (outB S) (4 * S.length) = newL M (pS S c) c + (leasts (smS S c) (smM S M c)).length := by
  have hS := sm_sm (M := M) hc
  have hm := hs.mates2
  have hp := pS_pp S c
  have hw := sm_way hs hc
  have hl := smS_len S c hc
  have hst := stp_inj hm hp (c := c) 2 (by omega)
  have hPo : ∀ x y, x < 4 * S.length → OnOrb (stp M (pS S c) c 2) x y → outB S y = outB S x := by
    rintro x y hx ⟨k, rfl⟩
    induction k with
    | zero => rfl
    | succ k ih => rw [iter_succ, out_stp hs hc (iter_lt _ _ hst.lt k x hx), ih]
  have hr := hS.rest_orb hm hw 2 (by omega) (outB S) (outB (smS S c)) (fun x _ => smS_out S c x) hPo
  have hn := new_nc hs hc
  have hsp := nc_split (OnOrb (stp M (pS S c) c 2)) (outB S) (inn M (pS S c) c) (4 * S.length)
  have e1 : nc (OnOrb (stp M (pS S c) c 2)) (fun x => outB S x && inn M (pS S c) c x) (4 * S.length) = nc (OnOrb (stp M (pS S c) c 2)) (fun x => inn M (pS S c) c x && outB S x) (4 * S.length) := nc_congr fun x _ => by cases outB S x <;> cases inn M (pS S c) c x <;> rfl
  have e2 : nc (OnOrb (stp M (pS S c) c 2)) (fun x => outB S x && !inn M (pS S c) c x) (4 * S.length) = nc (OnOrb (stp M (pS S c) c 2)) (fun x => !inn M (pS S c) c x && outB S x) (4 * S.length) := nc_congr fun x _ => by cases outB S x <;> cases inn M (pS S c) c x <;> rfl
  have l2 : (leasts (smS S c) (smM S M c)).length = nc (OnOrb (fb (smM S M c) 2)) (outB (smS S c)) (4 * (S.length - 1)) := by
    rw [leasts_len, hl]
    have hi : Inj (fb (smM S M c) 2) (4 * (S.length - 1)) := by
      have := hs'.injS
      rw [hl] at this
      exact this
    rw [← nc_orb hi]
    exact cnt_congr fun x _ => Bool.and_comm _ _
  omega
section
variable {S M : List Int} {L : Int} (hv : vldB S M L = true) {a b : Nat} (ha : a < S.length) (hb : b < S.length) (hab : a ≠ b)
include hv ha hb hab
theorem two_nc : nc (OnOrb (st2 M (pS S a) a (pS S b) b 2)) (outB S) (4 * S.length) = newL M (pS S a) a + newL (smM S M a) (pS (smS S a) (bk a b)) (bk a b) + (leasts (smS (smS S a) (bk a b)) (smM (smS S a) (smM S M a) (bk a b))).length := by
  have hs := vldB_shape hv
  have hm := hs.mates2
  have hl := smS_len S a ha
  have hs' := vldB_shape (sm_valid hs ha hv L hs.lo hs.hi)
  have hc' : bk a b < (smS S a).length := by rw [hl]; exact bk_lt hab ha hb
  have hs'' := vldB_shape (sm_valid hs' hc' (sm_valid hs ha hv L hs.lo hs.hi) L hs.lo hs.hi)
  have h1 := st2_count hm (sm_sm (M := M) ha) hab (pS_pp S b) (sm_way hs ha) 2 (by omega) (outB S) (outB (smS S a)) (fun x _ => smS_out S a x) (fun x hx => by
    have hmx := hs.mt_lt hx
    unfold st2
    split
    · rename_i h; rw [out_jn hs ha h, hs.out_mt hx]; simp
    · split
      · rename_i h; rw [out_jn hs hb h, hs.out_mt hx]; simp
      · rw [hs.out_tn2 _ hmx, hs.out_mt hx]; simp)
  have h2 := new_nc hs ha
  have h3 := sm_nc hs' hc' hs''
  rw [hl] at h3
  rw [pS_two hab] at h3 ⊢
  omega
/-- SMOOTHING TWO CROSSINGS IN EITHER ORDER: the loops. -/
theorem newL_two : newL M (pS S a) a + newL (smM S M a) (pS (smS S a) (bk a b)) (bk a b) = newL M (pS S b) b + newL (smM S M b) (pS (smS S b) (bk b a)) (bk b a) := by
  have h1 := two_nc hv ha hb hab
  have h2 := two_nc hv hb ha (fun e => hab e.symm)
  rw [st2_swap hab, smS_two ha hb hab, smM_two hv ha hb hab] at h1
  omega
end
end Go.Proofs.Ytkopbcehfbmnmaa
