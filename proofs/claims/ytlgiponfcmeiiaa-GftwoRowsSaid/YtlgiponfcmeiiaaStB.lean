/- The walks of the stable sort's parts: swapRange, rotate, insertionSort. -/
import Derived.Test.YtlgiponfcmeiiaaStA
import Derived.BigGuard
import Derived.BigCall
import Derived.CellFam
import Derived.Deep.Draws
namespace Go.Proofs.Ytlgiponfcmeiiaa
open Go Go.RowKit
theorem SC.At.fam {S : SC} {W : World} {xs : List Int} (h : S.At W xs) (k : S.Ok) {z : Nat} (hz : z = 0) : ∀ t, t < S.n → W.cell? ⟨S.b, z + t, none⟩ = some (.int .i64 (nth xs t)) := fun t ht => by
  subst hz; rw [Nat.zero_add]; exact h.cell k ht
theorem SC.At.famz {S : SC} {W : World} {xs : List Int} (h : S.At W xs) {z : Nat} (hz : z = 0) : ∀ t, t < S.n → W.frozen? ⟨S.b, z + t, none⟩ = false := fun t _ => by
  subst hz; rw [Nat.zero_add]; exact h.frozen t
theorem SC.At.behind {S : SC} {W : World} {xs : List Int} (h : S.At W xs) (k : S.Ok) {z : Nat} (hz : z = 0) (i j : Nat) (x : Int) (hj : j < S.n) : ∃ v, (W.setCell ⟨S.b, z + i, none⟩ (.int .i64 x)).cell? ⟨S.b, z + j, none⟩ = some v := by
  subst hz
  rw [Nat.zero_add, Nat.zero_add]
  exact ⟨_, (h.rb.setInt i x).int j (by rw [List.length_set, h.len k]; exact hj)⟩
theorem SC.At.swapz {S : SC} {W : World} {xs : List Int} (h : S.At W xs) (k : S.Ok) {z : Nat} (hz : z = 0) (i j : Nat) (hi : i < S.n) (hj : j < S.n) :
    ∃ ys, S.At ((W.setCell ⟨S.b, z + i, none⟩ (.int .i64 (nth xs j))).setCell ⟨S.b, z + j, none⟩ (.int .i64 (nth xs i))) ys := by
  subst hz
  rw [Nat.zero_add, Nat.zero_add]
  exact ⟨_, h.swap k i j hi hj⟩
set_option maxRecDepth 100000 in
set_option maxHeartbeats 1000000 in
theorem swapR_any (S : SC) (k : S.Ok) (W : World) (xs : List Int) (h : S.At W xs) (z : Nat) (hz : z = 0) (a b m : Nat) (ha : a + m ≤ S.n) (hb : b + m ≤ S.n) (fv : Value) :
    Calls Try.prog 56 #[.slice (some ⟨S.b, z, none⟩) S.n S.n, .int .i64 (a : Int), .int .i64 (b : Int), .int .i64 (m : Int), fv] W fun e w' => e = .returned (.tuple #[]) ∧ ∃ ys, S.At w' ys := by
  have hn := k.hn
  have Hk := Lib.hid k
  have Hh := Lib.hid h
  have Hz := Lib.hid hz
  clear k h hz
  go_enter Try.func56, Try.ntmps56
  go_wp2_with fail
  go_loopg [10] m (fun g v wr => ∃ (i : Nat) (ys : List Int), i ≤ m ∧ g = m - i ∧ v = .int .i64 i ∧ S.At wr ys)
  case atStart => exact ⟨0, xs, Nat.zero_le _, rfl, rfl, Hh.out⟩
  case round =>
    obtain ⟨i, ys, him, rfl, rfl, hh⟩ := hrel
    have Hr := Lib.hid hh
    clear hh Hh
    by_cases hi : i < m
    · have hcw0 := Hr.out.fam Hk.out Hz.out
      have hfw := Hr.out.famz Hz.out
      obtain ⟨G, hG⟩ : ∃ G : Nat → Int, ∀ t, G t = nth ys t := ⟨fun t => nth ys t, fun _ => rfl⟩
      have hcw : ∀ t, t < S.n → wr.cell? ⟨S.b, z + t, none⟩ = some (.int .i64 (G t)) := fun t ht => by rw [hG]; exact hcw0 t ht
      have HG := Lib.hid hG
      have HS : Hid (∃ zs, S.At (((wr.setCell ⟨S.b, z + (a + i), none⟩ (.int .i64 (G (b + i)))).setCell ⟨S.b, z + (b + i), none⟩ (.int .i64 (G (a + i))))).drew zs) := Lib.hid (by
        rw [HG.out, HG.out]
        obtain ⟨zs, hs⟩ := Hr.out.swapz Hk.out Hz.out (a + i) (b + i) (by omega) (by omega)
        exact ⟨zs, hs.drew⟩)
      obtain ⟨v3, h3⟩ := Hr.out.behind Hk.out Hz.out (a + i) (b + i) (G (b + i)) (by omega)
      clear Hr hG hcw0
      go_wp2_with fail
      go_region
      clear hcw hfw h3
      go_wp2_with fail
      go_roundg (m - (i + 1))
      case measure => omega
      case rel =>
        obtain ⟨zs, hs⟩ := HS.out
        exact ⟨i + 1, zs, by omega, rfl, by go_num, hs⟩
    · obtain rfl : i = m := by omega
      go_wp2_with fail
      refine bodyPost_end (results_none rfl _ _ _) rfl ?_
      exact ⟨rfl, _, Hr.out⟩
set_option maxRecDepth 100000 in
set_option maxHeartbeats 1000000 in
theorem rotate_any (S : SC) (k : S.Ok) (W : World) (xs : List Int) (h : S.At W xs) (z : Nat) (hz : z = 0) (a m b : Nat) (ha : a < m) (hm : m < b) (hb : b ≤ S.n) (fv : Value) :
    Calls Try.prog 50 #[.slice (some ⟨S.b, z, none⟩) S.n S.n, .int .i64 (a : Int), .int .i64 (m : Int), .int .i64 (b : Int), fv] W fun e w' => e = .returned (.tuple #[]) ∧ ∃ ys, S.At w' ys := by
  have hn := k.hn
  have HC : Hid (∀ (W : World) (ys : List Int) (a b c : Nat) (A B : Int), S.At W ys → A = (a : Int) → B = (b : Int) → a + c ≤ S.n → b + c ≤ S.n → Calls Try.prog 56 #[.slice (some ⟨S.b, z, none⟩) S.n S.n, .int .i64 A, .int .i64 B, .int .i64 (c : Int), fv] W fun e w' => e = .returned (.tuple #[]) ∧ ∃ ys, S.At w' ys) := Lib.hid fun W ys a b c A B h1 h2 h3 h4 h5 => by
    subst h2; subst h3
    exact swapR_any S k W ys h1 z hz a b c h4 h5 fv
  have Hh := Lib.hid h
  clear k h hz
  go_enter Try.func50, Try.ntmps50
  go_wp2_with fail
  go_loopg [10, 11] (b - a) (fun g u v wr => ∃ (i j : Nat) (ys : List Int), 0 < i ∧ 0 < j ∧ i ≤ m - a ∧ m + j ≤ b ∧ g = i + j ∧ u = .int .i64 i ∧ v = .int .i64 j ∧ S.At wr ys)
  case atStart => exact ⟨m - a, b - m, xs, by omega, by omega, by omega, by omega, by omega, by go_num, by go_num, Hh.out⟩
  case round =>
    obtain ⟨i, j, ys, hi0, hj0, hi, hj, rfl, rfl, rfl, hh⟩ := hrel
    have Hr := Lib.hid hh
    clear hh Hh
    by_cases hij : i = j
    · subst hij
      have HS := Lib.hid (HC.out wr ys (m - i) m i ((m : Int) - i) m Hr.out (by omega) rfl (by omega) (by omega))
      have e1 : ((i : Int) != (i : Int)) = false := by simp
      go_wp2_with fail
      refine HS.out.mono ?_
      rintro e w2 ⟨rfl, hs⟩
      have Hs := Lib.hid hs
      clear hs
      go_wp2_with fail
      refine bodyPost_end (results_none rfl _ _ _) rfl ?_
      exact ⟨rfl, Hs.out⟩
    · have e1 : ((i : Int) != (j : Int)) = true := by rw [bne, Bool.not_eq_true', beq_eq_false_iff_ne]; omega
      by_cases hlt : j < i
      · have d1 : decide ((j : Int) < (i : Int)) = true := decide_eq_true (by omega)
        have HS := Lib.hid (HC.out wr ys (m - i) m j ((m : Int) - i) m Hr.out (by omega) rfl (by omega) (by omega))
        go_wp2_with fail
        refine HS.out.mono ?_
        rintro e w2 ⟨rfl, zs, hs⟩
        have Hs := Lib.hid hs
        clear hs
        go_wp2_with fail
        go_roundg (i - j + j)
        case measure => omega
        case rel => exact ⟨i - j, j, zs, by omega, hj0, by omega, hj, rfl, by go_num, rfl, Hs.out⟩
      · have d1 : decide ((j : Int) < (i : Int)) = false := decide_eq_false (by omega)
        have HS := Lib.hid (HC.out wr ys (m - i) (m + j - i) i ((m : Int) - i) ((m : Int) + j - i) Hr.out (by omega) (by omega) (by omega) (by omega))
        go_wp2_with fail
        refine HS.out.mono ?_
        rintro e w2 ⟨rfl, zs, hs⟩
        have Hs := Lib.hid hs
        clear hs
        go_wp2_with fail
        go_roundg (i + (j - i))
        case measure => omega
        case rel => exact ⟨i, j - i, zs, hi0, by omega, hi, by omega, rfl, rfl, by go_num, Hs.out⟩
end Go.Proofs.Ytlgiponfcmeiiaa
