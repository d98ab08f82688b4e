/- Plain law: on a sphere each even set of edges bounds: the theorem itself. -/
import Derived.Test.YtkopbcehfbmnmaaPlanar5
namespace Go.Proofs.Ytkopbcehfbmnmaa
open Go Go.RowKit
section
variable {M : List Int} {n c0 : Nat} (hm : Mates M n)
include hm
theorem DD_mt {x : Nat} (hx : x < 4 * n) : DD M n c0 (mt M x) = DD M n c0 x := by
  unfold DD; rw [hm.inv hx, Bool.or_comm]
theorem EE_mt {x : Nat} (hx : x < 4 * n) : EE M n c0 (mt M x) = EE M n c0 x := by
  unfold EE; rw [DD_mt hm hx, UU_mt hm hx]
theorem DD_UU {x : Nat} (hx : x < 4 * n) (h : DD M n c0 x = true) : UU M c0 x = true := by
  unfold DD at h
  rw [Bool.or_eq_true] at h
  rcases h with h | h
  · exact isTree_E h
  · rw [← UU_mt hm hx]; exact isTree_E h
open Classical in
theorem all_primal (hs : Sph M n) (hc0 : c0 < n) : ∀ x, x < 4 * n → EE M n c0 x = true → isTree (mt M) (fun x => x / 4) (EE M n c0) x = true ∨ isTree (mt M) (fun x => x / 4) (EE M n c0) (mt M x) = true := by
  have h1 := dual_count hm hc0
  have h2 := primal_count hm hc0
  have h3 := hs c0 hc0
  have hD : cnt (DD M n c0) (4 * n) = 2 * cnt (isTree (mt M) (lf M n) (UU M c0)) (4 * n) := halves hm
  have hP := halves hm (v := fun x => x / 4) (E := EE M n c0)
  have hU : cnt (UU M c0) (4 * n) = 4 * VC M n c0 := cnt_four (fun c => decide (Conn M c0 c)) n
  have hE := cnt_split (UU M c0) (fun x => !DD M n c0 x) (4 * n)
  have hE1 : cnt (fun x => UU M c0 x && !!DD M n c0 x) (4 * n) = cnt (DD M n c0) (4 * n) := cnt_congr fun x hx => by
    cases hd : DD M n c0 x
    · simp
    · rw [DD_UU hm hx hd]; rfl
  have hE2 : cnt (fun x => UU M c0 x && !DD M n c0 x) (4 * n) = cnt (EE M n c0) (4 * n) := rfl
  intro x hx he
  refine Classical.byContradiction fun hno => ?_
  have hrm := cnt_remove hx he
  have hle := cnt_mono (N := 4 * n) (p := fun y => isTree (mt M) (fun x => x / 4) (EE M n c0) y || isTree (mt M) (fun x => x / 4) (EE M n c0) (mt M y)) (q := fun y => EE M n c0 y && decide (y ≠ x)) (fun y hy hp => by
    rw [Bool.or_eq_true] at hp
    have hEy : EE M n c0 y = true := by
      rcases hp with hp | hp
      · exact isTree_E hp
      · rw [← EE_mt hm hy]; exact isTree_E hp
    rw [Bool.and_eq_true, decide_eq_true_eq]
    exact ⟨hEy, fun e => hno (by rw [← e]; exact hp)⟩)
  omega
/-- ON A SPHERE EACH EVEN SET OF EDGES IS THE BORDER OF A SET OF FACES. -/
theorem bounds (hs : Sph M n) (hc0 : c0 < n) (Z : Nat → Bool) (hZ : ∀ x, x < 4 * n → Z (mt M x) = Z x)
    (hev : ∀ c, c < n → Conn M c0 c → cnt (fun x => decide (x / 4 = c) && Z x) (4 * n) % 2 = 0) :
    ∃ A : Nat → Bool, ∀ x, x < 4 * n → Conn M c0 (x / 4) → Z x = (A (lf M n x) ^^ A (lf M n (mt M x))) := by
  obtain ⟨A, hA⟩ := colour (m := mt M) (v := lf M n) (E := UU M c0) Z (4 * n)
  have hemp := forest_empty (m := mt M) (v := fun x => x / 4) (E := EE M n c0) (N := 4 * n) (B := n)
    (Z := fun x => UU M c0 x && (Z x ^^ (A (lf M n x) ^^ A (lf M n (mt M x)))))
    (fun x hx hz => ⟨hm.lt hx, by
      rw [UU_mt hm hx, hm.inv hx, hZ x hx, Bool.xor_comm (A (lf M n (mt M x)))]; exact hz, hm.inv hx, hm.ne x hx⟩)
    (fun x hx hz => by
      rw [Bool.and_eq_true] at hz
      refine all_primal hm hs hc0 x hx ?_
      unfold EE
      rw [hz.1, Bool.true_and, Bool.not_eq_true']
      refine Classical.byContradiction fun hd => ?_
      have hd2 : DD M n c0 x = true := by simpa using hd
      unfold DD at hd2
      rw [Bool.or_eq_true] at hd2
      rcases hd2 with ht | ht
      · rw [hA x hx ht] at hz; simp at hz
      · have := hA _ (hm.lt hx) ht
        rw [hm.inv hx, hZ x hx] at this
        rw [this, Bool.xor_comm (A (lf M n (mt M x)))] at hz
        simp at hz)
    (fun x hx => by omega)
    (fun c hc => by
      classical
      by_cases hcc : Conn M c0 c
      · have h1 := hev c hc hcc
        have h2 := cross_even (fun x => A (lf M n x)) n c
        have h3 := cnt_xor (fun x => decide (x / 4 = c)) Z (fun x => A (lf M n x) ^^ A (lf M n (tn x (-1)))) (4 * n)
        have e : cnt (fun x => decide (x / 4 = c) && (UU M c0 x && (Z x ^^ (A (lf M n x) ^^ A (lf M n (mt M x)))))) (4 * n) = cnt (fun x => decide (x / 4 = c) && (Z x ^^ (A (lf M n x) ^^ A (lf M n (tn x (-1)))))) (4 * n) := cnt_congr fun x hx => by
          rw [hm.face_mt hx]
          by_cases ex : x / 4 = c
          · rw [UU_iff.2 (by rw [ex]; exact hcc), Bool.true_and]
          · rw [decide_eq_false ex, Bool.false_and, Bool.false_and]
        rw [e]; omega
      · rw [cnt_none fun x hx => ?_]
        by_cases ex : x / 4 = c
        · have : UU M c0 x = false := by
            rw [← Bool.not_eq_true, UU_iff, ex]; exact hcc
          rw [this, Bool.false_and, Bool.and_false]
        · rw [decide_eq_false ex, Bool.false_and])
  refine ⟨A, fun x hx hcx => ?_⟩
  have h := hemp x hx
  rw [UU_iff.2 hcx, Bool.true_and] at h
  revert h
  cases Z x <;> cases A (lf M n x) <;> cases A (lf M n (mt M x)) <;> decide
end
end Go.Proofs.Ytkopbcehfbmnmaa
