/- Plain law: on a sphere each even set of edges bounds: the end. -/
import Derived.Test.YtkopbcehfbmnmaaPlanar3
namespace Go.Proofs.Ytkopbcehfbmnmaa
open Go Go.RowKit
/-- The edges of the dual forest, by both halves. -/
noncomputable def DD (M : List Int) (n c0 x : Nat) : Bool := isTree (mt M) (lf M n) (UU M c0) x || isTree (mt M) (lf M n) (UU M c0) (mt M x)
/-- .. the others. -/
noncomputable def EE (M : List Int) (n c0 x : Nat) : Bool := UU M c0 x && !DD M n c0 x
section
variable {M : List Int} {n c0 : Nat} (hm : Mates M n)
include hm
theorem UU_fc {x : Nat} (hx : x < 4 * n) : UU M c0 (fc M x) = UU M c0 x := by
  rw [Bool.eq_iff_iff, UU_iff, UU_iff]; exact hm.conn_fc hx
theorem primal_joined (x0 : Nat) (hx0 : x0 < 4 * n) (hu0 : UU M c0 x0 = true) : labn (mt M) (fun x => x / 4) (EE M n c0) (4 * n) (x0 / 4) = labn (mt M) (fun x => x / 4) (EE M n c0) (4 * n) (mt M x0 / 4) := by
  have hemp := forest_empty (m := mt M) (v := lf M n) (E := UU M c0) (N := 4 * n) (B := 4 * n)
    (Z := fun x => UU M c0 x && (decide (labn (mt M) (fun x => x / 4) (EE M n c0) (4 * n) (x / 4) = labn (mt M) (fun x => x / 4) (EE M n c0) (4 * n) (x0 / 4)) ^^ decide (labn (mt M) (fun x => x / 4) (EE M n c0) (4 * n) (mt M x / 4) = labn (mt M) (fun x => x / 4) (EE M n c0) (4 * n) (x0 / 4))))
    (fun x hx hz => ⟨hm.lt hx, by
      rw [UU_mt hm hx, hm.inv hx, Bool.xor_comm]; exact hz, hm.inv hx, hm.ne x hx⟩)
    (fun x hx hz => by
      simp only [Bool.and_eq_true] at hz
      have hne : ¬ EE M n c0 x = true := fun hE => by
        have h1 := labn_mono (m := mt M) (v := fun x => x / 4) (E := EE M n c0) (l := 4 * n) (k := x + 1) (y := x / 4) (z := mt M x / 4) (by omega) (labn_joined hE)
        rw [h1] at hz
        simp at hz
      unfold EE at hne
      rw [hz.1, Bool.true_and, Bool.not_eq_true'] at hne
      have : DD M n c0 x = true := by simpa using hne
      unfold DD at this
      rwa [Bool.or_eq_true] at this)
    (fun x hx => hm.face_lt hx)
    (fun y hy => by
      have h1 := orbit_even hm.inj hm.per (x := y) (fun x => UU M c0 x && decide (labn (mt M) (fun x => x / 4) (EE M n c0) (4 * n) (x / 4) = labn (mt M) (fun x => x / 4) (EE M n c0) (4 * n) (x0 / 4)))
      have e : cnt (fun x => decide (lf M n x = y) && (UU M c0 x && (decide (labn (mt M) (fun x => x / 4) (EE M n c0) (4 * n) (x / 4) = labn (mt M) (fun x => x / 4) (EE M n c0) (4 * n) (x0 / 4)) ^^ decide (labn (mt M) (fun x => x / 4) (EE M n c0) (4 * n) (mt M x / 4) = labn (mt M) (fun x => x / 4) (EE M n c0) (4 * n) (x0 / 4))))) (4 * n) = cnt (fun z => decide (fl (fc M) (perOf (fc M) (4 * n)) z = y) && ((UU M c0 z && decide (labn (mt M) (fun x => x / 4) (EE M n c0) (4 * n) (z / 4) = labn (mt M) (fun x => x / 4) (EE M n c0) (4 * n) (x0 / 4))) ^^ (UU M c0 (fc M z) && decide (labn (mt M) (fun x => x / 4) (EE M n c0) (4 * n) (fc M z / 4) = labn (mt M) (fun x => x / 4) (EE M n c0) (4 * n) (x0 / 4))))) (4 * n) := cnt_congr fun x hx => by
        have hd : fc M x / 4 = mt M x / 4 := tn_div _ _
        rw [UU_fc hm hx, hd]
        show (decide (lf M n x = y) && _) = (decide (lf M n x = y) && _)
        cases UU M c0 x <;> simp
      rw [e]; exact h1) x0 hx0
  rw [hu0, Bool.true_and] at hemp
  refine Classical.byContradiction fun hn => ?_
  rw [decide_eq_true rfl, decide_eq_false (fun h => hn h.symm)] at hemp
  exact absurd hemp (by decide)
end
end Go.Proofs.Ytkopbcehfbmnmaa
