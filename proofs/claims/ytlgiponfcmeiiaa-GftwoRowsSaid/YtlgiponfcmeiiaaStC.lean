/- The walk of the stable sort's insertionSort. -/
import Derived.Test.YtlgiponfcmeiiaaStB
import Derived.BigQuiet
namespace Go.Proofs.Ytlgiponfcmeiiaa
open Go Go.RowKit
theorem SC.At.less {S : SC} {W : World} {xs : List Int} (h : S.At W xs) (k : S.Ok) (i j : Nat) (hi : i < S.n) (hj : j < S.n) : ∃ cv : Int, ∀ n, Calls Try.prog 30 #[.int .i64 (nth xs i), .int .i64 (nth xs j), .pointer (some ⟨S.p, 0, none⟩)] (W.drewN n) fun e w' => e = .returned (.int .i64 cv) ∧ ∃ m, w' = (W.drewN n).drewN m :=
  ⟨_, fun n => less_any S k (W.drewN n) xs (h.drewN n) _ _ (h.lt k hi) (h.lt k hj)⟩
set_option maxRecDepth 100000 in
set_option maxHeartbeats 1000000 in
theorem insertion_any (S : SC) (k : S.Ok) (W : World) (xs : List Int) (h : S.At W xs) (z : Nat) (hz : z = 0) (a b : Nat) (hb : b ≤ S.n) (ha : a ≤ S.n) :
    Calls Try.prog 37 #[.slice (some ⟨S.b, z, none⟩) S.n S.n, .int .i64 (a : Int), .int .i64 (b : Int), .func (.func 30) #[] #[.pointer (some ⟨S.p, 0, none⟩)]] W fun e w' => e = .returned (.tuple #[]) ∧ ∃ ys, S.At w' ys := by
  have hn := k.hn
  have Hk := Lib.hid k
  have Hh := Lib.hid h
  have Hz := Lib.hid hz
  clear k h hz
  go_enter Try.func37, Try.ntmps37
  go_wp2_with fail
  go_loopg [8] (S.n + 1 - (a + 1)) (fun g v wr => ∃ (i : Nat) (ys : List Int), a < i ∧ i ≤ S.n + 1 ∧ g = S.n + 1 - i ∧ v = .int .i64 i ∧ S.At wr ys)
  case atStart => exact ⟨a + 1, xs, by omega, by omega, rfl, by go_num, Hh.out⟩
  case round =>
    obtain ⟨i, ys, hai, hin, rfl, rfl, hh⟩ := hrel
    have Hr := Lib.hid hh
    clear hh Hh
    by_cases hi : i < b
    · go_wp2_with fail
      go_loopg [9] (0 + i) (fun g v wr => ∃ (j : Nat) (ys : List Int), a ≤ j ∧ j ≤ i ∧ g = 0 + j ∧ v = .int .i64 j ∧ S.At wr ys)
      case atStart => exact ⟨i, ys, by omega, by omega, rfl, rfl, Hr.out⟩
      case round =>
        obtain ⟨j, ys, haj, hji, rfl, rfl, hh⟩ := hrel
        have Hs := Lib.hid hh
        clear hh Hr
        by_cases hja : a < j
        · have hcw0 := Hs.out.fam Hk.out Hz.out
          have hfw := Hs.out.famz Hz.out
          obtain ⟨G, hG⟩ : ∃ G : Nat → Int, ∀ t, G t = nth ys t := ⟨fun t => nth ys t, fun _ => rfl⟩
          have hcw : ∀ t, t < S.n → wr.cell? ⟨S.b, z + t, none⟩ = some (.int .i64 (G t)) := fun t ht => by rw [hG]; exact hcw0 t ht
          obtain ⟨cv, hcv⟩ := Hs.out.less Hk.out j (j - 1) (by omega) (by omega)
          rw [← hG, ← hG] at hcv
          have HL := Lib.hid hcv
          have HS : Hid (∀ q, ∃ zs, S.At ((((wr.drewN q).setCell ⟨S.b, z + j, none⟩ (.int .i64 (G (j - 1)))).setCell ⟨S.b, z + (j - 1), none⟩ (.int .i64 (G j)))) zs) := Lib.hid fun q => by
            rw [hG, hG]
            exact (Hs.out.drewN q).swapz Hk.out Hz.out j (j - 1) (by omega) (by omega)
          have HD : Hid (∀ q, S.At (wr.drewN q) ys) := Lib.hid fun q => Hs.out.drewN q
          have hjn : j < S.n := by omega
          clear hcv hcw0 hG Hs
          by_cases hc : cv < 0
          · have d1 : decide (cv < 0) = true := decide_eq_true hc
            go_wp2_with fail
            go_quiet (first | (go_at_call 30; exact Calls.quiet_of (HL.out _)))
            go_wp2_with fail
            go_region
            clear hcw hfw
            go_wp2_with fail
            go_roundg (0 + (j - 1))
            case measure => omega
            case rel =>
              obtain ⟨zs, hs⟩ := HS.out (nq + 1)
              exact ⟨j - 1, zs, by omega, by omega, rfl, by go_num, hs⟩
          · have d1 : decide (cv < 0) = false := decide_eq_false hc
            go_wp2_with fail
            go_quiet (first | (go_at_call 30; exact Calls.quiet_of (HL.out _)))
            go_wp2_with fail
            go_roundg (S.n + 1 - (i + 1))
            case measure => omega
            case rel => exact ⟨i + 1, ys, by omega, by omega, rfl, by go_num, HD.out _⟩
        · have d1 : decide ((a : Int) < (j : Int)) = false := decide_eq_false (by omega)
          have HD : Hid (∀ q, S.At (wr.drewN q) ys) := Lib.hid fun q => Hs.out.drewN q
          go_wp2_with fail
          go_quiet (fail)
          go_wp2_with fail
          go_roundg (S.n + 1 - (i + 1))
          case measure => omega
          case rel => exact ⟨i + 1, ys, by omega, by omega, rfl, by go_num, HD.out _⟩
    · go_wp2_with fail
      refine bodyPost_end (results_none rfl _ _ _) rfl ?_
      exact ⟨rfl, _, Hr.out⟩
end Go.Proofs.Ytlgiponfcmeiiaa
