/- What the stable sort keeps: a row of numbers that is renumbered within itself; the walks of the closure that compares, of cmp.Compare and isNaN, of swapRange and rotate. -/
import Derived.Test.YtlgiponfcmeiiaaTab
namespace Go.Proofs.Ytlgiponfcmeiiaa
open Go Go.RowKit
theorem perm_swap (xs : List Int) (i j : Nat) (hi : i < xs.length) (hj : j < xs.length) : ((xs.set i (nth xs j)).set j (nth xs i)).Perm xs := by
  have h := Array.swap_perm (xs := xs.toArray) (i := i) (j := j) (by simpa using hi) (by simpa using hj)
  rw [Array.perm_iff_toList_perm] at h
  simpa [Array.swap, nth, hi, hj] using h
theorem perm_swap' (xs : List Int) (i j : Nat) (hi : i < xs.length) (hj : j < xs.length) : ((xs.set j (nth xs i)).set i (nth xs j)).Perm xs := perm_swap xs j i hj hi
/-- What does not turn in a sort: the start, the boxed slice's block, its row, the row that is sorted, its length. -/
structure SC where
  w : World
  p : Nat
  o : Nat
  b : Nat
  n : Nat
  ones : List Int
  xs0 : List Int
structure SC.Ok (S : SC) : Prop where
  l1 : S.ones.length = S.n
  l2 : S.xs0.length = S.n
  lt : ∀ x ∈ S.xs0, 0 ≤ x ∧ x < S.n
  hn : S.n ≤ 1000000
  pb : S.p ≠ S.b
  ob : S.o ≠ S.b
/-- The world W stands in the sort, the row holds xs. -/
structure SC.At (S : SC) (W : World) (xs : List Int) : Prop where
  rp : Row W S.p 36 [.slice (some ⟨S.o, 0, none⟩) S.n S.n]
  ro : Row W S.o 3 (ints S.ones)
  rb : Row W S.b 3 (ints xs)
  tu : Turned S.w W (some ⟨S.b, 0, none⟩)
  pm : xs.Perm S.xs0
theorem SC.At.len {S : SC} {W : World} {xs : List Int} (h : S.At W xs) (k : S.Ok) : xs.length = S.n := by rw [h.pm.length_eq, k.l2]
theorem SC.At.lt {S : SC} {W : World} {xs : List Int} (h : S.At W xs) (k : S.Ok) {i : Nat} (hi : i < S.n) : 0 ≤ nth xs i ∧ nth xs i < S.n :=
  k.lt _ (h.pm.mem_iff.1 (nth_mem xs i (by rw [h.len k]; exact hi)))
theorem Turned.drewN {w w' : World} {a : Option Addr} (h : Turned w w' a) (m : Nat) : Turned w (w'.drewN m) a := ⟨h.os, h.tape, h.output, h.size, h.block⟩
theorem Turned.trans {w w' w2 : World} {a : Option Addr} (h : Turned w w' a) (k : Turned w' w2 a) : Turned w w2 a :=
  ⟨k.os.trans h.os, k.tape.trans h.tape, k.output.trans h.output, Nat.le_trans h.size k.size, fun i hi ha => (k.block i (Nat.lt_of_lt_of_le hi h.size) ha).trans (h.block i hi ha)⟩
theorem turned_set (W : World) (b i : Nat) (u : Value) : Turned W (W.setCell ⟨b, i, none⟩ u) (some ⟨b, 0, none⟩) := ⟨rfl, rfl, rfl, by simp, fun m _ hm => heap_setCell_other W ⟨b, i, none⟩ m u (fun e => hm _ rfl e.symm)⟩
theorem SC.At.drewN {S : SC} {W : World} {xs : List Int} (h : S.At W xs) (m : Nat) : S.At (W.drewN m) xs := ⟨h.rp, h.ro, h.rb, h.tu.drewN m, h.pm⟩
theorem SC.At.drew {S : SC} {W : World} {xs : List Int} (h : S.At W xs) : S.At W.drew xs := h.drewN 1
theorem SC.At.set {S : SC} {W : World} {xs : List Int} (h : S.At W xs) (k : S.Ok) (i : Nat) (x : Int) {ys : List Int} (hp : (xs.set i x) = ys) (hpm : ys.Perm S.xs0) : S.At (W.setCell ⟨S.b, i, none⟩ (.int .i64 x)) ys := by
  subst hp
  exact ⟨h.rp.setOther _ _ k.pb, h.ro.setOther _ _ k.ob, h.rb.setInt i x, h.tu.trans (turned_set _ _ _ _), hpm⟩
theorem SC.At.swap {S : SC} {W : World} {xs : List Int} (h : S.At W xs) (k : S.Ok) (i j : Nat) (hi : i < S.n) (hj : j < S.n) :
    S.At ((W.setCell ⟨S.b, i, none⟩ (.int .i64 (nth xs j))).setCell ⟨S.b, j, none⟩ (.int .i64 (nth xs i))) ((xs.set i (nth xs j)).set j (nth xs i)) := by
  have hl := h.len k
  have hp := (perm_swap xs i j (by omega) (by omega)).trans h.pm
  exact ⟨(h.rp.setOther _ _ k.pb).setOther _ _ k.pb, (h.ro.setOther _ _ k.ob).setOther _ _ k.ob, (h.rb.setInt i _).setInt j _,
    (h.tu.trans (turned_set _ _ _ _)).trans (turned_set _ _ _ _), hp⟩
theorem SC.At.cell {S : SC} {W : World} {xs : List Int} (h : S.At W xs) (k : S.Ok) {i : Nat} (hi : i < S.n) : W.cell? ⟨S.b, i, none⟩ = some (.int .i64 (nth xs i)) := h.rb.int i (by rw [h.len k]; exact hi)
theorem SC.At.frozen {S : SC} {W : World} {xs : List Int} (h : S.At W xs) (i : Nat) : W.frozen? ⟨S.b, i, none⟩ = false := h.rb.frozen i
/-! ### What compares -/
theorem isNaN_any (x : Int) (w : World) : Calls Try.prog 34 #[.int .i64 x] w fun e w' => e = .returned (.bool false) ∧ w' = w := by
  have h : (x != x) = false := by simp
  go_enter Try.func34, Try.ntmps34
  go_wp2_with fail
  go_ret
  exact ⟨rfl, rfl⟩
/-- Less, greater, or neither. -/
def cmpI (x y : Int) : Int := if x < y then -1 else if y < x then 1 else 0
set_option maxRecDepth 100000 in
theorem compare_any (x y : Int) (w : World) : Calls Try.prog 31 #[.int .i64 x, .int .i64 y] w fun e w' => e = .returned (.int .i64 (cmpI x y)) ∧ w' = w := by
  obtain ⟨r, hr⟩ : ∃ r, r = cmpI x y := ⟨_, rfl⟩
  rw [← hr]
  unfold cmpI at hr
  by_cases h1 : x < y
  · rw [if_pos h1] at hr
    subst hr
    have d1 : decide (x < y) = true := decide_eq_true h1
    go_enter Try.func31, Try.ntmps31
    go_wp2_with (first
      | (go_at_call 34; refine (isNaN_any _ _).mono ?_; rintro e w' ⟨rfl, rfl⟩))
    go_ret
    exact ⟨rfl, rfl⟩
  · have d1 : decide (x < y) = false := decide_eq_false h1
    by_cases h2 : y < x
    · rw [if_neg h1, if_pos h2] at hr
      subst hr
      have d2 : decide (y < x) = true := decide_eq_true h2
      go_enter Try.func31, Try.ntmps31
      go_wp2_with (first
        | (go_at_call 34; refine (isNaN_any _ _).mono ?_; rintro e w' ⟨rfl, rfl⟩))
      go_ret
      exact ⟨rfl, rfl⟩
    · rw [if_neg h1, if_neg h2] at hr
      subst hr
      have d2 : decide (y < x) = false := decide_eq_false h2
      go_enter Try.func31, Try.ntmps31
      go_wp2_with (first
        | (go_at_call 34; refine (isNaN_any _ _).mono ?_; rintro e w' ⟨rfl, rfl⟩))
      go_ret
      exact ⟨rfl, rfl⟩
set_option maxRecDepth 100000 in
set_option maxHeartbeats 4000000 in
theorem less_any (S : SC) (k : S.Ok) (W : World) (xs : List Int) (h : S.At W xs) (x y : Int) (hx : 0 ≤ x ∧ x < S.n) (hy : 0 ≤ y ∧ y < S.n) :
    Calls Try.prog 30 #[.int .i64 x, .int .i64 y, .pointer (some ⟨S.p, 0, none⟩)] W fun e w' => e = .returned (.int .i64 (cmpI (nth S.ones x.toNat) (nth S.ones y.toNat))) ∧ ∃ m, w' = W.drewN m := by
  obtain ⟨i, rfl⟩ : ∃ i : Nat, x = (i : Int) := ⟨x.toNat, by omega⟩
  obtain ⟨j, rfl⟩ : ∃ j : Nat, y = (j : Int) := ⟨y.toNat, by omega⟩
  have hp := h.rp.cell 0
  simp only [List.getElem?_cons_zero] at hp
  have hi : i < S.n := by omega
  have hj : j < S.n := by omega
  have h1 := h.ro.int i (by rw [k.l1]; exact hi)
  have h2 := h.ro.int j (by rw [k.l1]; exact hj)
  rw [Int.toNat_natCast, Int.toNat_natCast]
  clear h hx hy k
  generalize nth S.ones i = u at *
  generalize nth S.ones j = v at *
  go_enter Try.func30, Try.ntmps30
  go_wp2_with fail
  have HC : Hid (∀ W' : World, Calls Try.prog 31 #[.int .i64 u, .int .i64 v] W' fun e w' => e = .returned (.int .i64 (cmpI u v)) ∧ w' = W') := Lib.hid fun W' => compare_any u v W'
  go_region_with (first
    | ((with_reducible refine (HC.out _).mono ?_); rintro e wn ⟨rfl, rfl⟩))
  all_goals
    go_wp2_with fail
    go_ret
    exact ⟨rfl, 1, rfl⟩
end Go.Proofs.Ytlgiponfcmeiiaa
