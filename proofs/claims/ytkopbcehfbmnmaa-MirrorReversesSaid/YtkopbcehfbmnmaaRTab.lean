/- Lists by tables; the walk of the reference's negative. -/
import Derived.Test.YtkopbcehfbmnmaaRMovW
import Derived.Test.YtkopbcehfbmnmaaCloneB
import Derived.Test.YtkopbcehfbmnmaaMirA
import Derived.Test.YtkopbcehfbmnmaaMkB
namespace Go.Proofs.Ytkopbcehfbmnmaa
open Go Go.RowKit
/-- The list of n numbers f. -/
def lst (n : Nat) (f : Nat → Int) : List Int := (List.range n).map f
theorem lst_len (n : Nat) (f : Nat → Int) : (lst n f).length = n := by simp [lst]
theorem lst_nth {n : Nat} {f : Nat → Int} {x : Nat} (hx : x < n) : nth (lst n f) x = f x := by simp [nth, lst, hx]
theorem lst_ext {l : List Int} {n : Nat} {f : Nat → Int} (hl : l.length = n) (h : ∀ x, x < n → nth l x = f x) : l = lst n f :=
  ext_nth (hl.trans (lst_len n f).symm) fun x hx => by rw [lst_nth (by omega)]; exact h x (by omega)
theorem lst_set {n : Nat} {f g : Nat → Int} {i : Nat} {v : Int} (hi : i < n) (hv : g i = v) (h : ∀ x, x < n → x ≠ i → g x = f x) : (lst n f).set i v = lst n g := by
  refine lst_ext (by rw [List.length_set, lst_len]) fun x hx => ?_
  rw [nth_set _ _ _ _ (by rw [lst_len]; exact hi)]
  by_cases e : i = x
  · rw [if_pos e, ← e, hv]
  · rw [if_neg e, lst_nth hx]; exact (h x hx (fun g => e g.symm)).symm
theorem lst_congr {n : Nat} {f g : Nat → Int} (h : ∀ x, x < n → f x = g x) : lst n f = lst n g := lst_ext (lst_len n f) fun x hx => by rw [lst_nth hx]; exact h x hx
theorem zero_lst (n : Nat) (f : Nat → Int) : List.replicate n (0 : Int) = lst n fun x => if x < 0 then f x else 0 := lst_ext (by simp) fun x hx => by simp [nth, hx]
/-- append([]int{}, xs...), the empty slice at z. -/
theorem run_append_cp (W : World) (z B : Nat) (hB : B ≤ z) (hz : Row W z 3 []) (xs : List Int) (a : Option Addr) (c : Nat) (ty : TypeId) (hl : xs.length ≤ 1000000) (hx : IntsAt W a xs) :
    ∃ a' c' W', (Builtin.append_ #[22, 22] ty #[.slice (some ⟨z, 0, none⟩) 0 0, .slice a xs.length c]).run Try.prog W = .ok (.slice a' xs.length c') W' ∧ Own W' B 3 a' c' (ints xs) ∧ Below W.heap.size W W' := by
  have hzl := hz.lt
  rcases Nat.eq_zero_or_pos xs.length with h0 | h0
  · obtain rfl : xs = [] := List.eq_nil_of_length_eq_zero h0
    obtain ⟨i0, hi0, hz0, hz1, hz2⟩ := info_parts Try.info3
    have hs : Src Try.prog i0.size 22 (.slice a 0 c) 0 [] W := by
      cases a with
      | none => exact Src.ofNil W Try.underlying22 c
      | some ad => exact Src.ofSlice W Try.underlying22 ad 0 c [] (by simp) (fun j v hj => by simp at hj) (fun v hv => by cases hv)
    have hr := run_append_room_src (P := Try.prog) W 22 22 ty 3 i0 Try.underlying22 hi0 z 0 0 0 (.slice a 0 c) 0 [] hs (by omega) (fun j hj => absurd hj (Nat.not_lt_zero _)) (fun j hj => absurd hj (Nat.not_lt_zero _))
    exact ⟨_, _, _, hr, .inr ⟨z, 0, #[], rfl, hB, hz, Nat.le_refl _, Nat.le_refl _, fun i v hv => by simp [ints] at hv⟩, Below.refl _ _⟩
  · obtain ⟨b, off, rfl, _, hc⟩ := hx.open h0
    exact run_append_own W z B (by omega) xs ⟨b, off, none⟩ c ty hl h0 fun i hi => by rw [Addr.add_lit]; exact hc i hi
set_option maxRecDepth 100000 in
set_option maxHeartbeats 4000000 in
theorem negative_any (S : List Int) (aS : Option Addr) (cS : Nat) (w : World) (hSl : S.length ≤ 64) (hb1 : ∀ c, -1 ≤ nth S c ∧ nth S c ≤ 1) (hS : IntsAt w aS S) :
    Calls Try.prog 118 #[.slice aS S.length cS] w fun e w' => ∃ b : Nat, e = .returned (.slice (some ⟨b, 0, none⟩) S.length S.length) ∧ Row w' b 3 (ints (mulS S fun _ => -1)) ∧ Below w.heap.size w w' ∧ w.heap.size ≤ b := by
  have hmk := run_mk S.length (by omega)
  have Hb1 := Lib.hid hb1
  have HS := Lib.hid hS
  clear hb1 hS
  go_enter Try.func118, Try.ntmps118
  go_upto_region 2 with fail
  obtain ⟨v, hv⟩ : ∃ x, x = w.alloc (.cells (Array.replicate S.length (.int .i64 0)) 3) := ⟨_, rfl⟩
  rw [← hv]
  have h1 : HH w v [(w.heap.size, rowO 3 (ints (lst S.length fun x => if x < 0 then -(nth S x) else 0)))] [] := by
    rw [hv, ← zero_lst]; exact (HH.start w).alloc _ 3 rfl (zeros_ints _)
  have H1 := Lib.hid h1
  clear hv h1
  go_wp2_with fail
  go_loopg [4] S.length (fun g t wr => ∃ h : Nat, h ≤ S.length ∧ g = S.length - h ∧ t = .int .i64 h ∧ HH w wr [(w.heap.size, rowO 3 (ints (lst S.length fun x => if x < h then -(nth S x) else 0)))] [])
  case atStart => exact ⟨0, Nat.zero_le _, rfl, rfl, H1.out⟩
  case round =>
    clear H1
    obtain ⟨h, hh, rfl, rfl, hk⟩ := hrel
    have Hk := Lib.hid hk
    clear hk
    by_cases hl : h < S.length
    · obtain ⟨b', o', rfl, _, hcell⟩ := (Hk.out.came HS.out).open (by omega)
      have hcs := hcell h hl
      have hx1 := Hb1.out h
      have Hst : Hid ((lst S.length fun x => if x < h then -(nth S x) else 0).set h (-(nth S h)) = lst S.length fun x => if x < h + 1 then -(nth S x) else 0) := Lib.hid (lst_set hl (by rw [if_pos (by omega)]) fun x _ hx => by
        by_cases g : x < h
        · rw [if_pos g, if_pos (by omega)]
        · rw [if_neg g, if_neg (by omega)])
      have hset := Lib.hid (Hk.out.setInt (k := 0) rfl h (-(nth S h)))
      have hc1 := Hk.out.int (k := 0) rfl h (by rw [lst_len]; exact hl)
      have hf1 := Hk.out.frozen (k := 0) rfl h
      obtain ⟨x, hx⟩ : ∃ x, x = nth S h := ⟨_, rfl⟩
      rw [← hx] at hcs hx1 Hst hset
      obtain ⟨hx0, hx2⟩ := hx1
      have hneg : (0 : Int) - x = -x := by omega
      clear hcell hx
      go_wp2_with fail
      go_roundg (S.length - (h + 1))
      case measure => omega
      case rel => exact ⟨h + 1, by omega, rfl, by go_num, by rw [← Hst.out]; exact hset.out⟩
    · obtain rfl : h = S.length := by omega
      go_wp2_with fail
      go_ret
      refine ⟨w.heap.size, rfl, ?_, Hk.out.below, Nat.le_refl _⟩
      have e : mulS S (fun _ => -1) = lst S.length fun x => if x < S.length then -(nth S x) else 0 := lst_ext (mulS_len _ _) fun x hx => by rw [nth_mulS _ _ _ hx, if_pos hx]; omega
      rw [e]
      exact Hk.out.row (k := 0) rfl
end Go.Proofs.Ytkopbcehfbmnmaa
